/-
  Entries sorted by their keys: what the library's function does, told for all callers.
-/
import Derived.Test.YtkadlfadmjhahaaTableKeepsAllP6
import Derived.Shelf.SlSortCmp.NoneTotal
namespace Go.Proofs.Ytkadlfadmjhahaa
open Go.RowKit Go.Sort Go.Shelf
namespace Sx
open Go
set_option linter.unusedSimpArgs false
set_option linter.unusedVariables false

def encE (e : Ent) : List Value := [.int .i64 e.key, .int .i64 e.value, .int .i64 e.weight, .int .i64 e.node]
instance : Inhabited Ent := ⟨e0⟩
def cmpE (x y : Ent) : Int := Lib.compareInt x.key y.key

set_option maxHeartbeats 1000000 in
theorem closure_map (x y : Ent) (W : World) : Calls Try.prog 35 #[.agg (encE x).toArray, .agg (encE y).toArray] W fun e w' => e = .returned (.int .i64 (cmpE x y)) ∧ ∃ q os', w' = grow (W.drewN q) os' := by
  have hcon := fun W' => AnyG.cmp_Compare_int Try.cmpL x.key y.key W'
  change ∀ W', Calls Try.prog 36 _ _ _ at hcon
  unfold cmpE
  generalize Lib.compareInt x.key y.key = r at hcon ⊢
  show Calls Try.prog 35 #[.agg #[.int .i64 x.key, .int .i64 x.value, .int .i64 x.weight, .int .i64 x.node], .agg #[.int .i64 y.key, .int .i64 y.value, .int .i64 y.weight, .int .i64 y.node]] W _
  go_enter Try.func35, Try.ntmps35
  go_wp2_with (go_at_call 36; refine (hcon _).mono ?_; rintro e w' ⟨rfl, rfl⟩)
  go_ret
  exact ⟨rfl, 0, _, by rw [alloc_eq_grow, alloc_eq_grow, grow_grow]; rfl⟩
set_option maxHeartbeats 1000000 in
theorem closure_tab (x y : Ent) (W : World) : Calls Try.prog 35 #[.agg (encE x).toArray, .agg (encE y).toArray] W fun e w' => e = .returned (.int .i64 (cmpE x y)) ∧ ∃ q os', w' = grow (W.drewN q) os' := by
  have hcon := fun W' => AnyG.cmp_Compare_int Try.cmpL x.key y.key W'
  change ∀ W', Calls Try.prog 36 _ _ _ at hcon
  unfold cmpE
  generalize Lib.compareInt x.key y.key = r at hcon ⊢
  show Calls Try.prog 35 #[.agg #[.int .i64 x.key, .int .i64 x.value, .int .i64 x.weight, .int .i64 x.node], .agg #[.int .i64 y.key, .int .i64 y.value, .int .i64 y.weight, .int .i64 y.node]] W _
  go_enter Try.func35, Try.ntmps35
  go_wp2_with (go_at_call 36; refine (hcon _).mono ?_; rintro e w' ⟨rfl, rfl⟩)
  go_ret
  exact ⟨rfl, 0, _, by rw [alloc_eq_grow, alloc_eq_grow, grow_grow]; rfl⟩

theorem cmp_lt (x y : Ent) : ltOf cmpE x y = decide (x.key < y.key) := by
  unfold ltOf cmpE Lib.compareInt
  by_cases h1 : x.key < y.key
  · simp [h1]
  · by_cases h2 : x.key > y.key <;> simp [h1, h2]
theorem swo_key : SWO (ltOf cmpE) := by
  refine ⟨fun x => ?_, fun x y z h k => ?_, fun x y z h k => ?_⟩
  · rw [cmp_lt]; simp
  · rw [cmp_lt] at *; simp at *; omega
  · rw [cmp_lt] at *; simp at *; omega

/-! ## rows of entries in memory -/
theorem relL_ent {r : Nm} {e : Ent} {vs : List Value} (h : relL r (Ent.enc e) vs) : vs = encE e := by
  simp only [Ent.enc, relL, rel] at h
  obtain ⟨v, us, rfl, rfl, v2, us2, rfl, rfl, v3, us3, rfl, rfl, v4, us4, rfl, rfl, rfl⟩ := h
  rfl
theorem ent_relL (r : Nm) (e : Ent) : relL r (Ent.enc e) (encE e) := relL_cons.2 ⟨rfl, relL_cons.2 ⟨rfl, relL_cons.2 ⟨rfl, relL_cons.2 ⟨rfl, relL_nil⟩⟩⟩⟩
theorem encE_get (e : Ent) {j : Nat} (h : j < 4) : (encE e)[j]? = some ((encE e)[j]!) := by
  have : j < (encE e).length := h
  rw [List.getElem?_eq_getElem this, getElem!_pos _ j this]
theorem getA {xs : List Ent} {i : Nat} (h : i < xs.length) : xs.toArray[i]! = xs[i] := by rw [getElem!_pos _ i (by simpa using h)]; simp

theorem holds_row {w : World} {b T : Nat} {c : Array Value} {r : Nm} {xs : List Ent} (hb : w.heap[b]? = some (.cells c T (0, 0))) (hrow : rowAt Ent.lay r xs c 0) : HoldsK encE 4 w b 0 xs.toArray := by
  intro j hj
  rw [size_flatK] at hj
  have hj : j < xs.length * 4 := by simpa using hj
  rw [get_flatK _ _ _ _ (by simpa using hj)]
  have hi : j / 4 < xs.length := by omega
  have h1 := relL_ent (hrow (j / 4) xs[j / 4] (List.getElem?_eq_getElem hi))
  have h2 : (encE xs[j / 4])[j % 4]? = c[j]? := by
    rw [← h1]
    rw [List.getElem?_take, if_pos (show j % 4 < Ent.lay.w by show j % 4 < 4; omega), List.getElem?_drop]
    rw [show 0 + j / 4 * Ent.lay.w + j % 4 = j by show 0 + j / 4 * 4 + j % 4 = j; omega]
    simp
  refine ⟨?_, ?_⟩
  · rw [cell_of_row w b (0 + j) c T (0, 0) hb, Nat.zero_add, ← h2, encE_get _ (by omega), getA hi]; rfl
  · simp [World.frozen?, hb]

theorem heap_sort {w : World} {b T : Nat} {c : Array Value} (hb : w.heap[b]? = some (.cells c T (0, 0))) (d : Array Ent) (n : Nat) (os : Array Obj) :
    (sortWorldK encE 4 w b 0 n d os).heap[b]? = some (.cells (putCells id 0 (flatK encE 4 d) c) T (0, 0)) ∧ (∀ x, x ≠ b → x < w.heap.size → (sortWorldK encE 4 w b 0 n d os).heap[x]? = w.heap[x]?) ∧
    (sortWorldK encE 4 w b 0 n d os).os = w.os ∧ (sortWorldK encE 4 w b 0 n d os).output = w.output ∧ (sortWorldK encE 4 w b 0 n d os).tape = w.tape := by
  have hlt : b < w.heap.size := (Array.getElem?_eq_some_iff.1 hb).1
  have hsz : (putRowK encE 4 (Sort.ahead w n) b 0 d).heap.size = w.heap.size := size_putRowK ..
  refine ⟨?_, fun x hx hl => ?_, rfl, rfl, rfl⟩
  · unfold sortWorldK
    rw [heap_grow_old _ _ (by rw [hsz]; exact hlt)]
    show (w.heap.modify b (onCells (putCells id 0 (flatK encE 4 d))))[b]? = _
    rw [Array.getElem?_modify, if_pos rfl, hb]; rfl
  · unfold sortWorldK
    rw [heap_grow_old _ _ (by rw [hsz]; exact hl)]
    show (w.heap.modify b (onCells (putCells id 0 (flatK encE 4 d))))[x]? = _
    rw [Array.getElem?_modify, if_neg (Ne.symm hx)]

theorem row_sorted {c : Array Value} {d : Array Ent} {r : Nm} (hs : d.size * 4 ≤ c.size) : rowAt Ent.lay r d.toList (putCells id 0 (flatK encE 4 d) c) 0 ∧ (putCells id 0 (flatK encE 4 d) c).size = c.size := by
  refine ⟨fun i x hx => ?_, by simp [putCells]⟩
  have hi : i < d.toList.length := (List.getElem?_eq_some_iff.1 hx).1
  have hi' : i < d.size := by simpa using hi
  have hxe : d[i]! = x := by
    rw [getElem!_pos d i hi']
    have := (List.getElem?_eq_some_iff.1 hx).2
    simpa using this
  have : ((putCells id 0 (flatK encE 4 d) c).toList.drop (0 + i * Ent.lay.w)).take Ent.lay.w = encE x := by
    apply List.ext_getElem?
    intro j
    show (List.take 4 (List.drop (0 + i * 4) (putCells id 0 (flatK encE 4 d) c).toList))[j]? = _
    rw [List.getElem?_take]
    by_cases hj : j < 4
    · rw [if_pos hj, List.getElem?_drop, encE_get _ hj]
      have hk : i * 4 + j < d.size * 4 := by omega
      have e1 : (putCells id 0 (flatK encE 4 d) c).toList[0 + i * 4 + j]? = (putCells id 0 (flatK encE 4 d) c)[i * 4 + j]? := by simp
      rw [e1]
      unfold putCells
      rw [Array.getElem?_mapIdx, Array.getElem?_eq_getElem (show i * 4 + j < c.size by omega)]
      simp only [Option.map_some, id, Nat.zero_le, true_and, Nat.zero_add, size_flatK, hk, if_true, Nat.sub_zero]
      rw [get_flatK _ _ _ _ hk, show (i * 4 + j) / 4 = i by omega, show (i * 4 + j) % 4 = j by omega, hxe]
    · rw [if_neg hj, List.getElem?_eq_none (by show 4 ≤ j; omega)]
  rw [this]; exact ent_relL r x

def isCmp (g : Nat) : Bool := Nat.beq g 35 || Nat.beq g 35
def sortGo (id w st len : Nat) (h : Heap V) (nx : Nat) (K : AV → Heap V → Nat → List Nat → Out V) : Option (Blk V) → Out V
  | some (.arr T .ent xs sp) => bif Nat.beq w 4 then .need (st = 0 ∧ len = xs.length ∧ xs.length ≤ 1099511627776) (.all (List Ent) fun ys => .asm (ys.Perm xs ∧ ys.Pairwise (fun a b => a.key ≤ b.key)) (K (.tup []) (h.set id (.arr T .ent ys sp)) nx [id])) else .bad 551
  | _ => .bad 552
def hookSort : HookS V := fun args h nx K => match args with
  | [.sl _ id st w len _, .fn g [] []] => bif isCmp g then sortGo id w st len h nx K (h.get id) else .bad 553
  | _ => .bad 554

/-- One block of ours written anew, and new blocks that are none's. -/
theorem Sat.writeNew {β : Base} {r : Nm} {hp : Heap V} {w w' : World} (k : Sat β r hp w) {id : Nat} {B B' : Blk V} (hg : hp.get id = some B)
    {b : Nat} (o' : Obj) (hone : ∀ H1, B.den β.G r id H1 → ∃ o, H1 = Hp.one b o)
    (hB : B'.den β.G r id (Hp.one b o')) (hw : w'.heap[b]? = some o') (hs : ∀ x, x ≠ b → x < w.heap.size → w'.heap[x]? = w.heap[x]?)
    (h1 : w'.os = w.os) (h2 : w'.output = w.output) (h3 : w'.tape = w.tape) : Sat β r (hp.set id B') w' := by
  obtain ⟨a, H, p, c, d⟩ := k
  obtain ⟨H1, H2, q1, q2, q3, _, q5⟩ := Heap.focus p hg
  obtain ⟨o, rfl⟩ := hone H1 q1
  subst q3
  have c' := Hp.join_apart.1 c
  have ap : (Hp.one b o').apart H2 := Hp.one_apart.2 (Hp.one_apart.1 q2)
  have apG : (Hp.one b o').apart β.G := Hp.one_apart.2 (Hp.one_apart.1 c'.1)
  have d' := (Hp.inW_join q2).1 d
  have keep : ∀ {A : Hp}, A.inW w → A b = none → A.inW w' := fun {A} hA hb x o e => by
    rw [hs x (fun hx => by rw [hx, hb] at e; cases e) (Hp.lt hA e)]; exact hA x o e
  exact ⟨⟨h1.trans a.os, h2.trans a.output, h3.trans a.tape, keep a.G (Hp.one_apart.1 c'.1)⟩, (Hp.one b o').join H2, q5 r B' _ (Nm.le.refl r) hB ap, Hp.join_apart.2 ⟨apG, c'.2⟩, (Hp.inW_join ap).2 ⟨Hp.inW_one.2 hw, keep d'.2 (Hp.one_apart.1 q2)⟩⟩

theorem Sat.setSame {β : Base} {r : Nm} {hp : Heap V} {w : World} (k : Sat β r hp w) {id : Nat} {B : Blk V} (hg : hp.get id = some B) : Sat β r (hp.set id B) w := by
  obtain ⟨a, H, p, c, d⟩ := k
  obtain ⟨H1, H2, q1, q2, q3, _, q5⟩ := Heap.focus p hg
  subst q3
  exact ⟨a, _, q5 r B H1 (Nm.le.refl r) q1 q2, c, d⟩

theorem hSort : HookOk Try.prog 34 hookSort := by
  intro M args h nx K H
  unfold hookSort at H
  split at H
  · rename_i kn id st wd len cap g
    rw [holds_bif] at H
    split at H
    · rename_i hg
      unfold sortGo at H
      split at H
      · rename_i T xs sp hB
        rw [holds_bif] at H
        split at H
        · rename_i hw
          have hw := Nat.eq_of_beq_eq_true hw
          subst hw
          obtain ⟨⟨h0, hl, h2⟩, H⟩ := H
          subst h0; subst hl
          refine ⟨⟨Try.f34, by kernel_rfl, by kernel_rfl, by kernel_rfl⟩, fun β r vs w hr hs hfresh => ?_⟩
          simp only [relL] at hr
          obtain ⟨v0, us, rfl, ⟨a, rfl, hlc, ha⟩, v1, us1, rfl, ⟨u1, u2, hu1, hu2, rfl⟩, rfl⟩ := hr
          have hu1 : u1 = [] := hu1
          have hu2 : u2 = [] := hu2
          subst hu1; subst hu2
          rcases Nat.eq_zero_or_pos xs.length with hz | h1
          · have hx : xs = [] := List.length_eq_zero_iff.1 hz
            have hS := AnyF.slices_SortFunc_none Try.sortFL a cap (.func (.func g) #[] #[]) w
            rw [← hz] at hS
            refine Calls.mono (show Calls Try.prog 34 _ w _ from hS) fun e w' hh => ?_
            obtain ⟨rfl, rfl⟩ := hh
            exact ⟨_, _, _, _, _, r, rfl, H xs ⟨List.Perm.refl _, by rw [hx]; exact List.Pairwise.nil⟩, Nm.le.refl r, hfresh, ⟨[], relL_nil, rfl⟩, Sat.setSame hs hB, Kept.of fun i B hi hn => by rw [Heap.get_set_ne (by simpa using hn)]; exact hi⟩
          obtain ⟨H1, hden, hinw, _⟩ := hs.at hB
          rcases hden with ⟨hz, _⟩ | ⟨b, c, hb, hrow, hsz, hmx, rfl⟩
          · omega
          have hblk := Hp.inW_one.1 hinw
          have hlt : b < w.heap.size := (Array.getElem?_eq_some_iff.1 hblk).1
          have haddr : a = some ⟨b, 0, none⟩ := by
            rcases ha with h0 | ⟨y, hy, e⟩
            · omega
            · rw [hb] at hy; cases hy; rw [e]
          subst haddr
          have hcl : (∀ x y W, Calls Try.prog g #[.agg (encE x).toArray, .agg (encE y).toArray] W fun e w' => e = .returned (.int .i64 (cmpE x y)) ∧ ∃ q os', w' = grow (W.drewN q) os') ∧ ∀ args w, (callFunc g args).run Try.prog w = .ok (.enter g args) w := by
            unfold isCmp at hg
            simp only [Bool.or_eq_true] at hg
            rcases hg with hg | hg
            · have := Nat.eq_of_beq_eq_true hg; subst this
              exact ⟨closure_map, enters_of Try.func35 (by kernel_rfl) rfl⟩
            · have := Nat.eq_of_beq_eq_true hg; subst this
              exact ⟨closure_tab, enters_of Try.func35 (by kernel_rfl) rfl⟩
          have hS := AnyQ.slices_SortFunc Try.sortFL 4 Try.isAgg29 Try.sizeOf29 encE (fun _ => rfl) (fun x v hv => by simp [encE] at hv; rcases hv with rfl | rfl | rfl | rfl <;> rfl) cmpE swo_key g #[] b 0 cap xs.toArray w hcl.2 (fun _ _ _ _ x y => hcl.1 x y _) (holds_row hblk hrow) hlt (by simp; omega)
          have hsize : xs.toArray.size = xs.length := by simp
          rw [hsize] at hS
          refine Calls.mono (show Calls Try.prog 34 _ w _ from hS) fun e w' hh => ?_
          obtain ⟨rfl, d', n, os, hp, hso, rfl⟩ := hh
          obtain ⟨hd1, _, hd3⟩ := hp
          have hds : d'.size = xs.length := by rw [hd1]; simp
          have hperm : d'.toList.Perm xs := by
            have e1 : d'.extract 0 xs.length = d' := by rw [← hds]; simp
            have e2 : xs.toArray.extract 0 xs.length = xs.toArray := by rw [← hsize]; simp
            rw [e1, e2] at hd3; simpa using hd3
          have hpw : d'.toList.Pairwise (fun a b => a.key ≤ b.key) := by
            rw [List.pairwise_iff_getElem]
            intro i j hi hj hij
            have hi' : i < d'.size := by simpa using hi
            have hj' : j < d'.size := by simpa using hj
            have := hso i j (Nat.zero_le _) hij (by omega)
            rw [cmp_lt, getElem!_pos d' i hi', getElem!_pos d' j hj'] at this
            simp at this ⊢
            exact this
          obtain ⟨s1, s2, s3, s4, s5⟩ := heap_sort hblk d' n os
          have hcs : d'.size * 4 ≤ c.size := by rw [hsz, hds]; show _ ≤ (xs.length + sp) * 4; omega
          obtain ⟨t1, t2⟩ := row_sorted (r := r) hcs
          have hln : d'.toList.length = xs.length := by simpa using hds
          refine ⟨_, _, _, _, _, r, rfl, H d'.toList ⟨hperm, hpw⟩, Nm.le.refl r, hfresh, ⟨[], relL_nil, rfl⟩, ?_, Kept.of fun i B hi hn => by rw [Heap.get_set_ne (by simpa using hn)]; exact hi⟩
          refine Sat.writeNew hs hB (b := b) (.cells (putCells (fun x => x) 0 (flatK encE 4 d') c) T (0, 0)) ?_ (.inr ⟨b, _, hb, t1, ?_, ?_, rfl⟩) s1 s2 s3 s4 s5
          · rintro Hx (⟨hz, _⟩ | ⟨b', c', hb', _, _, _, rfl⟩)
            · omega
            · rw [hb] at hb'; cases hb'; exact ⟨_, rfl⟩
          · rw [t2, hln]; exact hsz
          · rw [hln]; exact hmx
        · exact H.elim
      · exact H.elim
    · exact H.elim
  · exact H.elim

end Sx
end Go.Proofs.Ytkadlfadmjhahaa

/-
  Tables: the runs of the machine.
-/
namespace Go.Proofs.Ytkadlfadmjhahaa
namespace Sx
open Go
set_option maxRecDepth 100000
set_option linter.unusedVariables false

noncomputable def hooksAll : Nat → Option (HookS V) := fun g => match g with | 34 => some hookSort | _ => none
noncomputable def cfgAll : Cfg Try.prog V := ⟨tab, kinds, fun _ => none, hooksAll, fun _ _ => none⟩
structure PAll where
  p : Pool
  j : Int
  a0 : Option (Nat × Nat)
  n0 : Nat
  c0 : Nat
  a1 : Option (Nat × Nat)
  n1 : Nat
  c1 : Nat
  row : Option (Nat × Nat)
  n : Nat
  c : Nat
  i : Int
structure XAll where
  x : Option (Nat × Nat)
  ys : List Ent
  sp : Nat
def AI4 (q : PAll) (z : XAll) : St V := ⟨[(22, .lit .i64 2), (21, .sl true 2 0 1 2 2), (23, .lit .i64 q.j), (27, .rs q.row q.n q.c), (28, .int .i64 (q.n : Int)), (29, .int .i64 q.i), (3, .sl false 8 0 4 z.ys.length (z.ys.length + z.sp)), (7, .rp z.x)],
  [(8, .arr 29 .ent z.ys z.sp), (2, .cells 52 [.rs q.a0 q.n0 q.c0, .rs q.a1 q.n1 q.c1]), (0, .pool q.p)], 9, 51, TQ⟩
theorem tball4 (q : PAll) (z : XAll) : runCode cfgAll 60 15 (loopOf Try.f15 4) (AI4 q z) (stopT (trimSt [3, 7, 21, 22, 23, 27, 28, 29] [0, 2, 8, 9, 10])) = Out.ite (!z.x.isNone) (Out.need (z.x.isSome = true) (Out.need (z.x.isSome = true) (Out.ex Int fun y => Out.ex Int fun y_1 => Out.ex Int fun y_2 => Out.ex Int fun y_3 => Out.need (q.p.at (shiftA z.x (0 : Nat)) [PD.int .i64 y, PD.int .i64 y_1, PD.int .i64 y_2, PD.int .i64 y_3]) (Out.need ((0 : Nat) = (0 : Nat) ∧ z.ys.length = z.ys.length ∧ z.ys.length + z.3 = z.ys.length + z.3 ∧ (z.ys.length + (1 : Nat)) * (32 : Nat) ≤ (140737488355328 : Nat)) (Out.all Nat fun y_4 => Out.need (z.x.isSome = true) (Out.need (z.x.isSome = true) (Out.ex (Option (Nat × Nat)) fun y_5 => Out.need (q.p.at (shiftA z.x (4 : Nat)) [PD.ptr y_5]) (Out.stop EX.nx {env := [((3 : Nat), .sl false (10 : Nat) (0 : Nat) (4 : Nat) (z.ys.length + (1 : Nat)) (z.ys.length + (1 : Nat) + y_4)), ((7 : Nat), AV.rp y_5), ((21 : Nat), .sl true (2 : Nat) (0 : Nat) (1 : Nat) (2 : Nat) (2 : Nat)), ((22 : Nat), .lit .i64 (2 : Int)), ((23 : Nat), .lit .i64 q.j), ((27 : Nat), AV.rs q.row q.10 q.11), ((28 : Nat), .int .i64 (↑q.10 : Int)), ((29 : Nat), .int .i64 q.i)], heap := [((10 : Nat), .arr (29 : Nat) Kd.ent (z.ys ++ [{key := y, value := y_1, weight := y_2, node := y_3 : Ent }]) y_4), ((9 : Nat), .cells (29 : Nat) [.int .i64 y, .int .i64 y_1, .int .i64 y_2, .int .i64 y_3]), ((2 : Nat), .cells (52 : Nat) [AV.rs q.a0 q.4 q.5, AV.rs q.a1 q.7 q.8]), ((0 : Nat), Blk.pool q.p)], nx := (11 : Nat), nt := (51 : Nat), tl := [(8 : Nat), (0 : Nat), (1 : Nat), (2 : Nat), (3 : Nat), (4 : Nat), (5 : Nat), (6 : Nat), (7 : Nat), (8 : Nat), (9 : Nat), (10 : Nat), (11 : Nat), (12 : Nat), (13 : Nat), (14 : Nat), (15 : Nat), (16 : Nat)] : St V })))))))) (Out.stop (EX.ex (4 : Nat)) {env := [((3 : Nat), .sl false (8 : Nat) (0 : Nat) (4 : Nat) z.ys.length (z.ys.length + z.3)), ((7 : Nat), AV.rp z.x), ((21 : Nat), .sl true (2 : Nat) (0 : Nat) (1 : Nat) (2 : Nat) (2 : Nat)), ((22 : Nat), .lit .i64 (2 : Int)), ((23 : Nat), .lit .i64 q.j), ((27 : Nat), AV.rs q.row q.10 q.11), ((28 : Nat), .int .i64 (↑q.10 : Int)), ((29 : Nat), .int .i64 q.i)], heap := [((8 : Nat), .arr (29 : Nat) Kd.ent z.ys z.3), ((2 : Nat), .cells (52 : Nat) [AV.rs q.a0 q.4 q.5, AV.rs q.a1 q.7 q.8]), ((0 : Nat), Blk.pool q.p)], nx := (9 : Nat), nt := (51 : Nat), tl := [(0 : Nat), (1 : Nat), (2 : Nat), (3 : Nat), (4 : Nat), (5 : Nat), (6 : Nat), (7 : Nat), (8 : Nat), (9 : Nat), (10 : Nat), (11 : Nat), (12 : Nat), (13 : Nat), (14 : Nat), (15 : Nat), (16 : Nat)] : St V }) := by kernel_rfl

end Sx
end Go.Proofs.Ytkadlfadmjhahaa

/-
  All entries of a table: what the function does.
-/
namespace Go.Proofs.Ytkadlfadmjhahaa
namespace Sx
open Go
set_option linter.unusedSimpArgs false
set_option linter.unusedVariables false

theorem hooksAll_ok : ∀ g H, hooksAll g = some H → HookOk Try.prog g H := by
  intro g H h
  unfold hooksAll at h
  split at h
  · cases h; exact hSort
  · cases h
theorem cfgAll_ok : cfgAll.ok := ⟨tab_met, kinds_met, mixed_met, fun g fn h => (by cases h), hooksAll_ok⟩

theorem tbody4 (q : PAll) (r : Chn) (z : XAll) (hs : Seg q.p z.x r) (hn : z.ys.length + r.length ≤ 1099511627776) (Q : EX → St V → Prop) (F : AV → Heap V → Nat → Prop)
    (hnx : ∀ (ST : St V) a e c' o' sp', r = (a, e) :: c' → Seg q.p o' c' → Wk 8 [(8, 10)] ST (AI4 q ⟨o', z.ys ++ [e], sp'⟩) → Q .nx ST)
    (hex : ∀ ST : St V, r = [] → Wk 8 [(8, 8)] ST (AI4 q z) → Q (.ex 4) ST) :
    (runCode cfgAll 60 15 (loopOf Try.f15 4) (AI4 q z) (stopT (trimSt [3, 7, 21, 22, 23, 27, 28, 29] [0, 2, 8, 9, 10]))).holds ⟨Q, F⟩ := by
  rw [tball4]
  obtain ⟨x, ys, sp⟩ := z
  simp only [Out.holds, decide_eq_true_eq, decide_eq_false_iff_not, beq_iff_eq, beq_eq_false_iff_ne, bne_iff_ne, ne_eq, bne_eq_false_iff_eq, Bool.true_and, Bool.and_true, Bool.not_eq_true', Bool.not_eq_false', Bool.and_eq_true, Bool.or_eq_true, Bool.and_eq_false_imp, true_implies, true_and, Bool.not_true, Bool.not_false, Bool.false_eq_true, Bool.true_eq_false, false_implies, and_true, beq_self_eq_true, Decidable.not_not, not_true_eq_false, not_false_eq_true]
  cases r with
  | nil =>
    have hx : x = none := hs
    subst hx
    exact ⟨fun h => by simp at h, fun _ => hex _ rfl (by (refine ⟨?_, ?_, rfl, tl_ok rfl, ?_, ⟨Nat.le_of_ble_eq_true rfl, rfl⟩⟩ <;> (repeat' first | with_reducible exact trivial | exact AV.sub_same _ | exact .same _ | exact .inr rfl | exact .inl (in_ok rfl) | exact AV.sub_lit' | exact AV.sub_nilS | exact .none _ _ | exact trivial | refine ⟨?_, ?_⟩)))⟩
  | cons y c' =>
    obtain ⟨a, e⟩ := y
    obtain ⟨hx, o', h1, h2⟩ := hs
    have hx : x = some (a, 0) := hx
    subst hx
    simp only [show ys.length + 1 = (ys ++ [e]).length by simp]
    have hb : (ys ++ [e]).length * 32 ≤ 140737488355328 := by simp only [List.length_cons, List.length_append, List.length_nil] at hn ⊢; omega
    refine ⟨fun _ => ⟨rfl, rfl, e.key, e.value, e.weight, e.node, at_whole h1 0 _ rfl (by simp [linkPD]), hb, fun sp' => ⟨rfl, rfl, o', at_whole h1 4 _ rfl (by simp [linkPD]), hnx _ a e c' o' sp' rfl h2 (by (refine ⟨?_, ?_, rfl, tl_ok rfl, ?_, ⟨Nat.le_of_ble_eq_true rfl, rfl⟩⟩ <;> (repeat' first | with_reducible exact trivial | exact AV.sub_same _ | exact .same _ | exact .inr rfl | exact .inl (in_ok rfl) | exact AV.sub_lit' | exact AV.sub_nilS | exact .none _ _ | exact trivial | refine ⟨?_, ?_⟩)))⟩⟩, fun h => by simp at h⟩

structure PC4 where
  q : PAll
  ch : Chn
  z0 : XAll
  hS : Seg q.p z0.x ch
  hn : z0.ys.length + ch.length ≤ 1099511627776
structure J4a (p : PC4) (x : Chn × XAll) : Prop where
  s : Seg p.q.p x.2.x x.1
  e : x.2.ys ++ ents x.1 = p.z0.ys ++ ents p.ch
  n : x.2.ys.length + x.1.length ≤ 1099511627776
def AL4 : LoopS V := trimLoop (trimSt [3, 7, 21, 22, 23, 27, 28, 29] [0, 1, 2, 3, 4, 5, 6, 7, 8]) (loopH 8 (fun p : PC4 => AI4 p.q p.z0) (fun p (_ : Nat) => True) (fun p sp => AI4 p.q ⟨none, p.z0.ys ++ ents p.ch, sp⟩))
theorem al4_ok : LoopOk Try.prog 4 (loopOf Try.f15 4) AL4 := by
  refine trimLoop_ok (trim_ok _ _) (loopTH_ok (C := cfgAll) cfgAll_ok (f := 15) (n := 60) (trim_ok [3, 7, 21, 22, 23, 27, 28, 29] [0, 2, 8, 9, 10]) 8 (fun (p : PC4) (x : Chn × XAll) => AI4 p.q x.2) J4a (fun p => (p.ch, p.z0)) (fun p x => x.1.length) (fun _ (_ : Nat) => True) (fun p sp => AI4 p.q ⟨none, p.z0.ys ++ ents p.ch, sp⟩) (fun p => ⟨p.hS, rfl, p.hn⟩) ?_)
  intro p x hx
  obtain ⟨r, z⟩ := x
  obtain ⟨h1, h2, h3⟩ := hx
  refine tbody4 p.q r z h1 h3 _ _ (fun ST a e c' o' sp' hr hs hw => SImp.of_wk (c', ⟨o', z.ys ++ [e], sp'⟩) hw ⟨⟨hs, ?_, ?_⟩, ?_⟩) (fun ST hr hw => ⟨rfl, ?_⟩)
  · subst hr; rw [← h2]; simp [ents]
  · subst hr; simp only [List.length_cons, List.length_append, List.length_nil] at h3 ⊢; omega
  · subst hr; simp
  · subst hr
    obtain ⟨x, ys, sp⟩ := z
    have hx : x = none := h1
    subst hx
    have hy : ys = p.z0.ys ++ ents p.ch := by rw [← h2]; simp [ents]
    subst hy
    exact SImp.of_wk sp hw trivial

end Sx
end Go.Proofs.Ytkadlfadmjhahaa

/-
  Tables: the runs of the machine.
-/
namespace Go.Proofs.Ytkadlfadmjhahaa
namespace Sx
open Go
set_option maxRecDepth 100000
set_option linter.unusedVariables false

noncomputable def cfgAll4 : Cfg Try.prog V := ⟨tab, kinds, fun _ => none, hooksAll, fun f id => match f, id with | 15, 4 => some AL4 | _, _ => none⟩
structure X2 where
  i : Nat
  ys : List Ent
  sp : Nat
def AI2 (k : Nat) (j : Int) (q : PAll) (z : X2) : St V := ⟨[(22, .lit .i64 2), (21, .sl true 2 0 1 2 2), (23, .lit .i64 j), (27, .rs q.row q.n q.c), (28, .int .i64 (q.n : Int)), (29, .int .i64 (z.i : Int)), (3, .sl false k 0 4 z.ys.length (z.ys.length + z.sp))],
  [(k, .arr 29 .ent z.ys z.sp), (2, .cells 52 [.rs q.a0 q.n0 q.c0, .rs q.a1 q.n1 q.c1]), (0, .pool q.p)], k + 1, 51, TQ⟩
theorem tball2a (q : PAll) (z : X2) : runCode cfgAll4 60 15 (loopOf Try.f15 2) (AI2 3 0 q z) (stopT (trimSt [3, 21, 22, 23, 27, 28, 29] [0, 2, 3, 5, 8])) = Out.ite (decide ((↑z.1 : Int) < (↑q.10 : Int))) (Out.need ((0 : Int) ≤ (↑z.1 : Int) ∧ (↑z.1 : Int) < (↑q.10 : Int) ∧ q.row.isSome = true) (Out.ex (Option (Nat × Nat)) fun y => Out.need (q.p.at (shiftA q.row (z.1 * (1 : Nat))) [PD.ptr y]) (Out.need (LoopFor Try.prog (15 : Nat) (4 : Nat) (loopOf Try.f15 (4 : Nat)) AL4) (Out.ex (PC4 → Prop) fun y_1 => Out.need ((4 : Nat) ≤ (8 : Nat) ∧ SImp (8 : Nat) {env := [((3 : Nat), .sl false (3 : Nat) (0 : Nat) (4 : Nat) z.ys.length (z.ys.length + z.3)), ((7 : Nat), AV.rp y), ((21 : Nat), .sl true (2 : Nat) (0 : Nat) (1 : Nat) (2 : Nat) (2 : Nat)), ((22 : Nat), .lit .i64 (2 : Int)), ((23 : Nat), .lit .i64 (0 : Int)), ((27 : Nat), AV.rs q.row q.10 q.11), ((28 : Nat), .int .i64 (↑q.10 : Int)), ((29 : Nat), .int .i64 (↑z.1 : Int))], heap := [((3 : Nat), .arr (29 : Nat) Kd.ent z.ys z.3), ((2 : Nat), .cells (52 : Nat) [AV.rs q.a0 q.4 q.5, AV.rs q.a1 q.7 q.8]), ((0 : Nat), Blk.pool q.p)], nx := (4 : Nat), nt := (51 : Nat), tl := [(0 : Nat), (1 : Nat), (2 : Nat), (3 : Nat), (4 : Nat), (5 : Nat), (6 : Nat), (7 : Nat), (8 : Nat), (9 : Nat), (10 : Nat), (11 : Nat), (12 : Nat), (13 : Nat), (14 : Nat), (15 : Nat), (16 : Nat)] : St V } (fun p => AI4 p.q p.z0) y_1) (Out.all PC4 fun y => Out.asm (y_1 y) (Out.all Nat fun y_2 => Out.asm ((fun p x => True) y y_2) (Out.stop EX.nx {env := [((3 : Nat), .sl false (8 : Nat) (0 : Nat) (4 : Nat) {x := none, ys := y.z0.ys ++ ents y.ch, sp := y_2 : XAll }.ys.length ({x := none, ys := y.z0.ys ++ ents y.ch, sp := y_2 : XAll }.ys.length + y_2)), ((21 : Nat), .sl true (2 : Nat) (0 : Nat) (1 : Nat) (2 : Nat) (2 : Nat)), ((22 : Nat), .lit .i64 (2 : Int)), ((23 : Nat), .lit .i64 y.q.j), ((27 : Nat), AV.rs y.q.row y.q.10 y.q.11), ((28 : Nat), .int .i64 (↑y.q.10 : Int)), ((29 : Nat), .int .i64 (IntKind.i64.wrap (y.q.i + (1 : Int))))], heap := [((8 : Nat), .arr (29 : Nat) Kd.ent {x := none, ys := y.z0.ys ++ ents y.ch, sp := y_2 : XAll }.ys y_2), ((2 : Nat), .cells (52 : Nat) [AV.rs y.q.a0 y.q.4 y.q.5, AV.rs y.q.a1 y.q.7 y.q.8]), ((0 : Nat), Blk.pool y.q.p)], nx := (9 : Nat), nt := (51 : Nat), tl := [(0 : Nat), (1 : Nat), (2 : Nat), (3 : Nat), (4 : Nat), (5 : Nat), (6 : Nat), (7 : Nat), (8 : Nat), (9 : Nat), (10 : Nat), (11 : Nat), (12 : Nat), (13 : Nat), (14 : Nat), (15 : Nat), (16 : Nat)] : St V }))))))) (Out.stop (EX.ex (2 : Nat)) {env := [((3 : Nat), .sl false (3 : Nat) (0 : Nat) (4 : Nat) z.ys.length (z.ys.length + z.3)), ((21 : Nat), .sl true (2 : Nat) (0 : Nat) (1 : Nat) (2 : Nat) (2 : Nat)), ((22 : Nat), .lit .i64 (2 : Int)), ((23 : Nat), .lit .i64 (0 : Int)), ((27 : Nat), AV.rs q.row q.10 q.11), ((28 : Nat), .int .i64 (↑q.10 : Int)), ((29 : Nat), .int .i64 (↑z.1 : Int))], heap := [((3 : Nat), .arr (29 : Nat) Kd.ent z.ys z.3), ((2 : Nat), .cells (52 : Nat) [AV.rs q.a0 q.4 q.5, AV.rs q.a1 q.7 q.8]), ((0 : Nat), Blk.pool q.p)], nx := (4 : Nat), nt := (51 : Nat), tl := [(0 : Nat), (1 : Nat), (2 : Nat), (3 : Nat), (4 : Nat), (5 : Nat), (6 : Nat), (7 : Nat), (8 : Nat), (9 : Nat), (10 : Nat), (11 : Nat), (12 : Nat), (13 : Nat), (14 : Nat), (15 : Nat), (16 : Nat)] : St V }) := by kernel_rfl

theorem tball2b (q : PAll) (z : X2) : runCode cfgAll4 60 15 (loopOf Try.f15 2) (AI2 5 1 q z) (stopT (trimSt [3, 21, 22, 23, 27, 28, 29] [0, 2, 3, 5, 8])) = Out.ite (decide ((↑z.1 : Int) < (↑q.10 : Int))) (Out.need ((0 : Int) ≤ (↑z.1 : Int) ∧ (↑z.1 : Int) < (↑q.10 : Int) ∧ q.row.isSome = true) (Out.ex (Option (Nat × Nat)) fun y => Out.need (q.p.at (shiftA q.row (z.1 * (1 : Nat))) [PD.ptr y]) (Out.need (LoopFor Try.prog (15 : Nat) (4 : Nat) (loopOf Try.f15 (4 : Nat)) AL4) (Out.ex (PC4 → Prop) fun y_1 => Out.need ((6 : Nat) ≤ (8 : Nat) ∧ SImp (8 : Nat) {env := [((3 : Nat), .sl false (5 : Nat) (0 : Nat) (4 : Nat) z.ys.length (z.ys.length + z.3)), ((7 : Nat), AV.rp y), ((21 : Nat), .sl true (2 : Nat) (0 : Nat) (1 : Nat) (2 : Nat) (2 : Nat)), ((22 : Nat), .lit .i64 (2 : Int)), ((23 : Nat), .lit .i64 (1 : Int)), ((27 : Nat), AV.rs q.row q.10 q.11), ((28 : Nat), .int .i64 (↑q.10 : Int)), ((29 : Nat), .int .i64 (↑z.1 : Int))], heap := [((5 : Nat), .arr (29 : Nat) Kd.ent z.ys z.3), ((2 : Nat), .cells (52 : Nat) [AV.rs q.a0 q.4 q.5, AV.rs q.a1 q.7 q.8]), ((0 : Nat), Blk.pool q.p)], nx := (6 : Nat), nt := (51 : Nat), tl := [(0 : Nat), (1 : Nat), (2 : Nat), (3 : Nat), (4 : Nat), (5 : Nat), (6 : Nat), (7 : Nat), (8 : Nat), (9 : Nat), (10 : Nat), (11 : Nat), (12 : Nat), (13 : Nat), (14 : Nat), (15 : Nat), (16 : Nat)] : St V } (fun p => AI4 p.q p.z0) y_1) (Out.all PC4 fun y => Out.asm (y_1 y) (Out.all Nat fun y_2 => Out.asm ((fun p x => True) y y_2) (Out.stop EX.nx {env := [((3 : Nat), .sl false (8 : Nat) (0 : Nat) (4 : Nat) {x := none, ys := y.z0.ys ++ ents y.ch, sp := y_2 : XAll }.ys.length ({x := none, ys := y.z0.ys ++ ents y.ch, sp := y_2 : XAll }.ys.length + y_2)), ((21 : Nat), .sl true (2 : Nat) (0 : Nat) (1 : Nat) (2 : Nat) (2 : Nat)), ((22 : Nat), .lit .i64 (2 : Int)), ((23 : Nat), .lit .i64 y.q.j), ((27 : Nat), AV.rs y.q.row y.q.10 y.q.11), ((28 : Nat), .int .i64 (↑y.q.10 : Int)), ((29 : Nat), .int .i64 (IntKind.i64.wrap (y.q.i + (1 : Int))))], heap := [((8 : Nat), .arr (29 : Nat) Kd.ent {x := none, ys := y.z0.ys ++ ents y.ch, sp := y_2 : XAll }.ys y_2), ((2 : Nat), .cells (52 : Nat) [AV.rs y.q.a0 y.q.4 y.q.5, AV.rs y.q.a1 y.q.7 y.q.8]), ((0 : Nat), Blk.pool y.q.p)], nx := (9 : Nat), nt := (51 : Nat), tl := [(0 : Nat), (1 : Nat), (2 : Nat), (3 : Nat), (4 : Nat), (5 : Nat), (6 : Nat), (7 : Nat), (8 : Nat), (9 : Nat), (10 : Nat), (11 : Nat), (12 : Nat), (13 : Nat), (14 : Nat), (15 : Nat), (16 : Nat)] : St V }))))))) (Out.stop (EX.ex (2 : Nat)) {env := [((3 : Nat), .sl false (5 : Nat) (0 : Nat) (4 : Nat) z.ys.length (z.ys.length + z.3)), ((21 : Nat), .sl true (2 : Nat) (0 : Nat) (1 : Nat) (2 : Nat) (2 : Nat)), ((22 : Nat), .lit .i64 (2 : Int)), ((23 : Nat), .lit .i64 (1 : Int)), ((27 : Nat), AV.rs q.row q.10 q.11), ((28 : Nat), .int .i64 (↑q.10 : Int)), ((29 : Nat), .int .i64 (↑z.1 : Int))], heap := [((5 : Nat), .arr (29 : Nat) Kd.ent z.ys z.3), ((2 : Nat), .cells (52 : Nat) [AV.rs q.a0 q.4 q.5, AV.rs q.a1 q.7 q.8]), ((0 : Nat), Blk.pool q.p)], nx := (6 : Nat), nt := (51 : Nat), tl := [(0 : Nat), (1 : Nat), (2 : Nat), (3 : Nat), (4 : Nat), (5 : Nat), (6 : Nat), (7 : Nat), (8 : Nat), (9 : Nat), (10 : Nat), (11 : Nat), (12 : Nat), (13 : Nat), (14 : Nat), (15 : Nat), (16 : Nat)] : St V }) := by kernel_rfl

end Sx
end Go.Proofs.Ytkadlfadmjhahaa

/-
  All entries of a table: the loop over a row of chains.
-/
namespace Go.Proofs.Ytkadlfadmjhahaa
namespace Sx
open Go
set_option linter.unusedSimpArgs false
set_option linter.unusedVariables false

theorem cfgAll4_ok : cfgAll4.ok := ⟨tab_met, kinds_met, mixed_met, fun g fn h => (by cases h), hooksAll_ok⟩

structure PC2 where
  q : PAll
  chs : List Chn
  z0 : X2
  h0 : z0.i = 0
  hl : q.n = chs.length
  hn : q.n ≤ 2147483648
  hs : ∀ i, i < chs.length → q.row.isSome = true ∧ ∃ o, q.p.at (shiftA q.row (i * 1)) [.ptr o] ∧ Seg q.p o (chs.getD i [])
  hy : z0.ys.length + (chs.flatMap ents).length ≤ 1099511627776
structure J2 (p : PC2) (z : X2) : Prop where
  i : z.i ≤ p.chs.length
  e : z.ys = p.z0.ys ++ (p.chs.take z.i).flatMap ents
theorem flat_take_le : ∀ (l : List Chn) (i : Nat), ((l.take i).flatMap ents).length + (l.getD i []).length ≤ (l.flatMap ents).length
  | [], i => by simp
  | x :: l, 0 => by simp [ents]
  | x :: l, i + 1 => by have := flat_take_le l i; simp only [List.take_succ_cons, List.flatMap_cons, List.length_append, List.getD_cons_succ]; omega
theorem flat_take_succ : ∀ (l : List Chn) (i : Nat), i < l.length → (l.take (i + 1)).flatMap ents = (l.take i).flatMap ents ++ ents (l.getD i [])
  | [], i, h => by simp at h
  | x :: l, 0, h => by simp
  | x :: l, i + 1, h => by
    have := flat_take_succ l i (by simpa using h)
    rw [List.take_succ_cons, List.take_succ_cons, List.flatMap_cons, List.flatMap_cons, this, List.append_assoc, List.getD_cons_succ]

theorem tbody2a (q : PAll) (z : X2) (c : Chn) (hi : z.i ≤ q.n) (hn : q.n ≤ 2147483648) (hs : z.i < q.n → q.row.isSome = true ∧ ∃ o, q.p.at (shiftA q.row (z.i * 1)) [.ptr o] ∧ Seg q.p o c) (hy : z.ys.length + c.length ≤ 1099511627776) (Q : EX → St V → Prop) (F : AV → Heap V → Nat → Prop)
    (hnx : ∀ (ST : St V) sp', z.i < q.n → Wk 3 [(3, 8)] ST (AI2 3 0 q ⟨z.i + 1, z.ys ++ ents c, sp'⟩) → Q .nx ST)
    (hex : ∀ ST : St V, z.i = q.n → Wk 3 [(3, 3)] ST (AI2 3 0 q z) → Q (.ex 2) ST) :
    (runCode cfgAll4 60 15 (loopOf Try.f15 2) (AI2 3 0 q z) (stopT (trimSt [3, 21, 22, 23, 27, 28, 29] [0, 2, 3, 5, 8]))).holds ⟨Q, F⟩ := by
  rw [tball2a]
  obtain ⟨i, ys, sp⟩ := z
  simp only at hi hs hy hnx hex
  simp only [Out.holds, decide_eq_true_eq, decide_eq_false_iff_not, beq_iff_eq, beq_eq_false_iff_ne, bne_iff_ne, ne_eq, bne_eq_false_iff_eq, Bool.true_and, Bool.and_true, Bool.not_eq_true', Bool.not_eq_false', Bool.and_eq_true, Bool.or_eq_true, Bool.and_eq_false_imp, true_implies, true_and, Bool.not_true, Bool.not_false, Bool.false_eq_true, Bool.true_eq_false, false_implies, and_true, beq_self_eq_true, Decidable.not_not, not_true_eq_false, not_false_eq_true]
  refine ⟨fun hlt => ?_, fun hge => hex _ (by omega) (by (refine ⟨?_, ?_, rfl, tl_ok rfl, ?_, ⟨Nat.le_of_ble_eq_true rfl, rfl⟩⟩ <;> (repeat' first | with_reducible exact trivial | exact AV.sub_same _ | exact .same _ | exact .inr rfl | exact .inl (in_ok rfl) | exact AV.sub_lit' | exact AV.sub_nilS | exact .none _ _ | exact trivial | refine ⟨?_, ?_⟩)))⟩
  have hlt' : i < q.n := by omega
  obtain ⟨h1, o, h2, h3⟩ := hs hlt'
  have hw : IntKind.wrap .i64 ((i : Int) + 1) = ((i + 1 : Nat) : Int) := wrap_nat (by omega)
  refine ⟨⟨by omega, by omega, h1⟩, o, h2, al4_ok, fun p => p = ⟨{ q with i := (i : Int), j := 0 }, c, ⟨o, ys, sp⟩, h3, hy⟩, ⟨by decide, SImp.of_wk (ren := [(8, 3)]) ⟨{ q with i := (i : Int), j := 0 }, c, ⟨o, ys, sp⟩, h3, hy⟩ (by (refine ⟨?_, ?_, rfl, tl_ok rfl, ?_, ⟨Nat.le_of_ble_eq_true rfl, rfl⟩⟩ <;> (repeat' first | with_reducible exact trivial | exact AV.sub_same _ | exact .same _ | exact .inr rfl | exact .inl (in_ok rfl) | exact AV.sub_lit' | exact AV.sub_nilS | exact .none _ _ | exact trivial | refine ⟨?_, ?_⟩))) rfl⟩, ?_⟩
  rintro _ rfl sp'
  exact hnx _ sp' hlt' (by (refine ⟨?_, ?_, rfl, tl_ok rfl, ?_, ⟨Nat.le_of_ble_eq_true rfl, rfl⟩⟩ <;> (repeat' first | with_reducible exact trivial | (exact AV.sub_int hw) | exact AV.sub_same _ | exact .same _ | exact .inr rfl | exact .inl (in_ok rfl) | exact AV.sub_lit' | exact AV.sub_nilS | exact .none _ _ | exact trivial | refine ⟨?_, ?_⟩)))

def AL2a : LoopS V := trimLoop (trimSt [3, 21, 22, 23, 27, 28, 29] [0, 1, 2, 3, 4, 5, 6, 7, 8]) (loopH 3 (fun p : PC2 => AI2 3 0 p.q p.z0) (fun p (_ : Nat) => True) (fun p sp => AI2 3 0 p.q ⟨p.chs.length, p.z0.ys ++ p.chs.flatMap ents, sp⟩))
theorem al2a_ok : LoopOk Try.prog 2 (loopOf Try.f15 2) AL2a := by
  refine trimLoop_ok (trim_ok _ _) (loopTH_ok (C := cfgAll4) cfgAll4_ok (f := 15) (n := 60) (trim_ok [3, 21, 22, 23, 27, 28, 29] [0, 2, 3, 5, 8]) 3 (fun (p : PC2) (x : X2) => AI2 3 0 p.q x) J2 (fun p => p.z0) (fun p x => p.chs.length - x.i) (fun _ (_ : Nat) => True) (fun p sp => AI2 3 0 p.q ⟨p.chs.length, p.z0.ys ++ p.chs.flatMap ents, sp⟩) (fun p => ⟨by rw [p.h0]; exact Nat.zero_le _, by rw [p.h0]; simp⟩) ?_)
  intro p z hz
  obtain ⟨h1, h2⟩ := hz
  have hl := p.hl
  have hy := p.hy
  have hf := flat_take_le p.chs z.i
  refine tbody2a p.q z (p.chs.getD z.i []) (by omega) p.hn (fun h => p.hs z.i (by omega)) ?_ _ _ (fun ST sp' hlt hw => SImp.of_wk ⟨z.i + 1, z.ys ++ ents (p.chs.getD z.i []), sp'⟩ hw ⟨⟨?_, ?_⟩, ?_⟩) (fun ST he hw => ⟨rfl, ?_⟩)
  · rw [h2, List.length_append]; omega
  · show z.i + 1 ≤ _; omega
  · show z.ys ++ _ = _
    rw [flat_take_succ p.chs z.i (by omega), h2, List.append_assoc]
  · show p.chs.length - (z.i + 1) < p.chs.length - z.i; omega
  · obtain ⟨i, ys, sp⟩ := z
    simp only at he h2
    rw [hl] at he; subst he
    rw [List.take_length] at h2; subst h2
    exact SImp.of_wk sp hw trivial

theorem tbody2b (q : PAll) (z : X2) (c : Chn) (hi : z.i ≤ q.n) (hn : q.n ≤ 2147483648) (hs : z.i < q.n → q.row.isSome = true ∧ ∃ o, q.p.at (shiftA q.row (z.i * 1)) [.ptr o] ∧ Seg q.p o c) (hy : z.ys.length + c.length ≤ 1099511627776) (Q : EX → St V → Prop) (F : AV → Heap V → Nat → Prop)
    (hnx : ∀ (ST : St V) sp', z.i < q.n → Wk 5 [(5, 8)] ST (AI2 5 1 q ⟨z.i + 1, z.ys ++ ents c, sp'⟩) → Q .nx ST)
    (hex : ∀ ST : St V, z.i = q.n → Wk 5 [(5, 5)] ST (AI2 5 1 q z) → Q (.ex 2) ST) :
    (runCode cfgAll4 60 15 (loopOf Try.f15 2) (AI2 5 1 q z) (stopT (trimSt [3, 21, 22, 23, 27, 28, 29] [0, 2, 3, 5, 8]))).holds ⟨Q, F⟩ := by
  rw [tball2b]
  obtain ⟨i, ys, sp⟩ := z
  simp only at hi hs hy hnx hex
  simp only [Out.holds, decide_eq_true_eq, decide_eq_false_iff_not, beq_iff_eq, beq_eq_false_iff_ne, bne_iff_ne, ne_eq, bne_eq_false_iff_eq, Bool.true_and, Bool.and_true, Bool.not_eq_true', Bool.not_eq_false', Bool.and_eq_true, Bool.or_eq_true, Bool.and_eq_false_imp, true_implies, true_and, Bool.not_true, Bool.not_false, Bool.false_eq_true, Bool.true_eq_false, false_implies, and_true, beq_self_eq_true, Decidable.not_not, not_true_eq_false, not_false_eq_true]
  refine ⟨fun hlt => ?_, fun hge => hex _ (by omega) (by (refine ⟨?_, ?_, rfl, tl_ok rfl, ?_, ⟨Nat.le_of_ble_eq_true rfl, rfl⟩⟩ <;> (repeat' first | with_reducible exact trivial | exact AV.sub_same _ | exact .same _ | exact .inr rfl | exact .inl (in_ok rfl) | exact AV.sub_lit' | exact AV.sub_nilS | exact .none _ _ | exact trivial | refine ⟨?_, ?_⟩)))⟩
  have hlt' : i < q.n := by omega
  obtain ⟨h1, o, h2, h3⟩ := hs hlt'
  have hw : IntKind.wrap .i64 ((i : Int) + 1) = ((i + 1 : Nat) : Int) := wrap_nat (by omega)
  refine ⟨⟨by omega, by omega, h1⟩, o, h2, al4_ok, fun p => p = ⟨{ q with i := (i : Int), j := 1 }, c, ⟨o, ys, sp⟩, h3, hy⟩, ⟨by decide, SImp.of_wk (ren := [(8, 5)]) ⟨{ q with i := (i : Int), j := 1 }, c, ⟨o, ys, sp⟩, h3, hy⟩ (by (refine ⟨?_, ?_, rfl, tl_ok rfl, ?_, ⟨Nat.le_of_ble_eq_true rfl, rfl⟩⟩ <;> (repeat' first | with_reducible exact trivial | exact AV.sub_same _ | exact .same _ | exact .inr rfl | exact .inl (in_ok rfl) | exact AV.sub_lit' | exact AV.sub_nilS | exact .none _ _ | exact trivial | refine ⟨?_, ?_⟩))) rfl⟩, ?_⟩
  rintro _ rfl sp'
  exact hnx _ sp' hlt' (by (refine ⟨?_, ?_, rfl, tl_ok rfl, ?_, ⟨Nat.le_of_ble_eq_true rfl, rfl⟩⟩ <;> (repeat' first | with_reducible exact trivial | (exact AV.sub_int hw) | exact AV.sub_same _ | exact .same _ | exact .inr rfl | exact .inl (in_ok rfl) | exact AV.sub_lit' | exact AV.sub_nilS | exact .none _ _ | exact trivial | refine ⟨?_, ?_⟩)))

def AL2b : LoopS V := trimLoop (trimSt [3, 21, 22, 23, 27, 28, 29] [0, 1, 2, 3, 4, 5, 6, 7, 8]) (loopH 5 (fun p : PC2 => AI2 5 1 p.q p.z0) (fun p (_ : Nat) => True) (fun p sp => AI2 5 1 p.q ⟨p.chs.length, p.z0.ys ++ p.chs.flatMap ents, sp⟩))
theorem al2b_ok : LoopOk Try.prog 2 (loopOf Try.f15 2) AL2b := by
  refine trimLoop_ok (trim_ok _ _) (loopTH_ok (C := cfgAll4) cfgAll4_ok (f := 15) (n := 60) (trim_ok [3, 21, 22, 23, 27, 28, 29] [0, 2, 3, 5, 8]) 5 (fun (p : PC2) (x : X2) => AI2 5 1 p.q x) J2 (fun p => p.z0) (fun p x => p.chs.length - x.i) (fun _ (_ : Nat) => True) (fun p sp => AI2 5 1 p.q ⟨p.chs.length, p.z0.ys ++ p.chs.flatMap ents, sp⟩) (fun p => ⟨by rw [p.h0]; exact Nat.zero_le _, by rw [p.h0]; simp⟩) ?_)
  intro p z hz
  obtain ⟨h1, h2⟩ := hz
  have hl := p.hl
  have hy := p.hy
  have hf := flat_take_le p.chs z.i
  refine tbody2b p.q z (p.chs.getD z.i []) (by omega) p.hn (fun h => p.hs z.i (by omega)) ?_ _ _ (fun ST sp' hlt hw => SImp.of_wk ⟨z.i + 1, z.ys ++ ents (p.chs.getD z.i []), sp'⟩ hw ⟨⟨?_, ?_⟩, ?_⟩) (fun ST he hw => ⟨rfl, ?_⟩)
  · rw [h2, List.length_append]; omega
  · show z.i + 1 ≤ _; omega
  · show z.ys ++ _ = _
    rw [flat_take_succ p.chs z.i (by omega), h2, List.append_assoc]
  · show p.chs.length - (z.i + 1) < p.chs.length - z.i; omega
  · obtain ⟨i, ys, sp⟩ := z
    simp only at he h2
    rw [hl] at he; subst he
    rw [List.take_length] at h2; subst h2
    exact SImp.of_wk sp hw trivial

end Sx
end Go.Proofs.Ytkadlfadmjhahaa

/-
  Tables: the runs of the machine.
-/
namespace Go.Proofs.Ytkadlfadmjhahaa
namespace Sx
open Go
set_option maxRecDepth 100000
set_option linter.unusedVariables false

def AL2 : LoopS V := fun s K => bif Nat.ble s.nx 3 then AL2a s K else AL2b s K
noncomputable def cfgAll2 : Cfg Try.prog V := ⟨tab, kinds, fun _ => none, hooksAll, fun f id => match f, id with | 15, 2 => some AL2 | _, _ => none⟩
theorem tall (p : Pool) (b : Nat) : runF cfgAll2 60 15 Try.f15 [.rp (some (b, 0))] [(0, .pool p)] 2 = Out.need ((some (b, (0 : Nat))).isSome = true) (Out.need ((some (b, (0 : Nat))).isSome = true) (Out.ex (Option (Nat × Nat)) fun y => Out.ex Nat fun y_1 => Out.ex Nat fun y_2 => Out.need (p.at (shiftA (some (b, (0 : Nat))) (1 : Nat)) [PD.sl y y_1 y_2]) (Out.need ((some (b, (0 : Nat))).isSome = true) (Out.need ((some (b, (0 : Nat))).isSome = true) (Out.ex (Option (Nat × Nat)) fun y_3 => Out.ex Nat fun y_4 => Out.ex Nat fun y_5 => Out.need (p.at (shiftA (some (b, (0 : Nat))) (2 : Nat)) [PD.sl y_3 y_4 y_5]) (Out.need ((some (b, (0 : Nat))).isSome = true) (Out.need ((some (b, (0 : Nat))).isSome = true) (Out.ex Int fun y_6 => Out.need (p.at (shiftA (some (b, (0 : Nat))) (3 : Nat)) [PD.int .i64 y_6]) (Out.need ((0 : Int) ≤ y_6 ∧ y_6 ≤ (↑y_4 : Int) ∧ y_4 ≤ y_5) (Out.need ((0 : Int) ≤ (0 : Int) ∧ (0 : Int) < (2 : Int)) (Out.need (LoopFor Try.prog (15 : Nat) (2 : Nat) (loopOf Try.f15 (2 : Nat)) AL2) (Out.ex (PC2 → Prop) fun y_7 => Out.need ((3 : Nat) ≤ (3 : Nat) ∧ SImp (3 : Nat) {env := [((3 : Nat), .nilS), ((21 : Nat), .sl true (2 : Nat) (0 : Nat) (1 : Nat) (2 : Nat) (2 : Nat)), ((22 : Nat), .lit .i64 (2 : Int)), ((23 : Nat), .lit .i64 (0 : Int)), ((27 : Nat), AV.rs y y_1 y_2), ((28 : Nat), .int .i64 (↑y_1 : Int)), ((29 : Nat), .lit .i64 (0 : Int))], heap := [((2 : Nat), .cells (52 : Nat) [AV.rs y y_1 y_2, AV.rs (if y_5 = y_6.toNat then y_3 else shiftA y_3 (y_6.toNat * (1 : Nat))) (y_4 - y_6.toNat) (y_5 - y_6.toNat)]), ((0 : Nat), Blk.pool p)], nx := (3 : Nat), nt := (51 : Nat), tl := [] : St V } (fun p => AI2 (3 : Nat) (0 : Int) p.q p.z0) y_7) (Out.all PC2 fun y => Out.asm (y_7 y) (Out.all Nat fun y_8 => Out.asm ((fun p x => True) y y_8) (Out.need ((0 : Int) ≤ (1 : Int) ∧ (1 : Int) < (2 : Int)) (Out.need (LoopFor Try.prog (15 : Nat) (2 : Nat) (loopOf Try.f15 (2 : Nat)) AL2) (Out.ex (PC2 → Prop) fun y_9 => Out.need ((4 : Nat) ≤ (5 : Nat) ∧ SImp (5 : Nat) {env := [((3 : Nat), .sl false (3 : Nat) (0 : Nat) (4 : Nat) {i := y.chs.length, ys := y.z0.ys ++ List.flatMap ents y.chs, sp := y_8 : X2 }.ys.length ({i := y.chs.length, ys := y.z0.ys ++ List.flatMap ents y.chs, sp := y_8 : X2 }.ys.length + y_8)), ((21 : Nat), .sl true (2 : Nat) (0 : Nat) (1 : Nat) (2 : Nat) (2 : Nat)), ((22 : Nat), .lit .i64 (2 : Int)), ((23 : Nat), .lit .i64 (1 : Int)), ((27 : Nat), AV.rs y.q.a1 y.q.7 y.q.8), ((28 : Nat), .int .i64 (↑y.q.7 : Int)), ((29 : Nat), .lit .i64 (0 : Int))], heap := [((3 : Nat), .arr (29 : Nat) Kd.ent {i := y.chs.length, ys := y.z0.ys ++ List.flatMap ents y.chs, sp := y_8 : X2 }.ys y_8), ((2 : Nat), .cells (52 : Nat) [AV.rs y.q.a0 y.q.4 y.q.5, AV.rs y.q.a1 y.q.7 y.q.8]), ((0 : Nat), Blk.pool y.q.p)], nx := (4 : Nat), nt := (51 : Nat), tl := [(0 : Nat), (1 : Nat), (2 : Nat), (3 : Nat), (4 : Nat), (5 : Nat), (6 : Nat), (7 : Nat), (8 : Nat), (9 : Nat), (10 : Nat), (11 : Nat), (12 : Nat), (13 : Nat), (14 : Nat), (15 : Nat), (16 : Nat)] : St V } (fun p => AI2 (5 : Nat) (1 : Int) p.q p.z0) y_9) (Out.all PC2 fun y => Out.asm (y_9 y) (Out.all Nat fun y_10 => Out.asm ((fun p x => True) y y_10) (Out.need ((0 : Nat) = (0 : Nat) ∧ {i := y.chs.length, ys := y.z0.ys ++ List.flatMap ents y.chs, sp := y_10 : X2 }.ys.length = {i := y.chs.length, ys := y.z0.ys ++ List.flatMap ents y.chs, sp := y_10 : X2 }.ys.length ∧ {i := y.chs.length, ys := y.z0.ys ++ List.flatMap ents y.chs, sp := y_10 : X2 }.ys.length ≤ (1099511627776 : Nat)) (Out.all (List Ent) fun y_11 => Out.asm (y_11.Perm {i := y.chs.length, ys := y.z0.ys ++ List.flatMap ents y.chs, sp := y_10 : X2 }.ys ∧ List.Pairwise (fun a b => a.key ≤ b.key) y_11) (Out.fin (.sl false (5 : Nat) (0 : Nat) (4 : Nat) {i := y.chs.length, ys := y.z0.ys ++ List.flatMap ents y.chs, sp := y_10 : X2 }.ys.length ({i := y.chs.length, ys := y.z0.ys ++ List.flatMap ents y.chs, sp := y_10 : X2 }.ys.length + y_10)) [((5 : Nat), .arr (29 : Nat) Kd.ent y_11 y_10), ((2 : Nat), .cells (52 : Nat) [AV.rs y.q.a0 y.q.4 y.q.5, AV.rs y.q.a1 y.q.7 y.q.8]), ((0 : Nat), Blk.pool y.q.p)] (6 : Nat))))))))))))))))))))))) := by kernel_rfl

end Sx
end Go.Proofs.Ytkadlfadmjhahaa

/-
  All entries of a table: the contract.
-/
namespace Go.Proofs.Ytkadlfadmjhahaa
namespace Sx
open Go
set_option linter.unusedSimpArgs false
set_option linter.unusedVariables false

theorem al2_ok : LoopOk Try.prog 2 (loopOf Try.f15 2) AL2 := by
  intro M s K h
  unfold AL2 at h
  cases hb : Nat.ble s.nx 3 <;> rw [hb] at h
  · exact al2b_ok M s K h
  · exact al2a_ok M s K h

/-- A row's chains from a place on, as the loop wants them. -/
theorem Arr.rows {p : Pool} {lab : Nat → Lab} {old : Bool} {blk : Nat} {cs : List Chn} {m : Nat} (h : Arr p lab old blk cs m) (hm : m ≤ cs.length) :
    ∀ i, i < (cs.drop m).length → (some (blk, m) : Adr).isSome = true ∧ ∃ o, p.at (shiftA (some (blk, m)) (i * 1)) [.ptr o] ∧ Seg p o ((cs.drop m).getD i []) := by
  intro i hi
  obtain ⟨hs, a1, a2, a3, a4⟩ := h
  rw [List.length_drop] at hi
  refine ⟨rfl, hs.getD (m + i) none, ?_, ?_⟩
  · rw [show shiftA (some (blk, m)) (i * 1) = some (blk, m + i) by simp [shiftA]]
    exact at_arr a1 (by omega)
  · have := (a4 (m + i) (by omega) (by omega)).1
    rwa [show (cs.drop m).getD i [] = cs.getD (m + i) [] by simp [List.getD_eq_getElem?_getD, List.getElem?_drop]]

def rowsAll (L : TL) : List Ent := L.B.flatMap ents ++ (L.O.drop L.moved).flatMap ents
def runAll : RunPool V := fun p ar K => match ar with
  | [.val (.rp a)] => .ex Nat fun b => .need (a = some (b, 0)) <| .ex TL fun L => .need (TabAt p b L ∧ L.fits ∧ (rowsAll L).length ≤ 1099511627776) (.all (List Ent) fun ys => .all Nat fun sp => .asm (ys.Perm (rowsAll L) ∧ ys.Pairwise (fun a b => a.key ≤ b.key)) (K (.sl false 1 0 4 (rowsAll L).length ((rowsAll L).length + sp)) p [.arr 29 .ent ys sp]))
  | _ => .bad 500
theorem hAll : HookOk Try.prog 15 (hookPool [.val] runAll) := by
  refine pool_hook (C := cfgAll2) ⟨tab_met, kinds_met, mixed_met, fun g fn h => (by cases h), hooksAll_ok⟩ (n := 60) (fn := Try.f15) ⟨by kernel_rfl, by kernel_rfl⟩ (by kernel_rfl) ?_
  intro M p ar K0 H
  unfold runAll at H
  split at H
  · rename_i a
    obtain ⟨b, rfl, L, ⟨hT, hF, hN⟩, H⟩ := H
    refine ⟨show 1 ≤ _ by decide +kernel, ?_⟩
    show (runF cfgAll2 60 15 Try.f15 [.rp (some (b, 0))] [(0, .pool p)] 2).holds _
    rw [tall]
    have f1 := hT.f1; have f2 := hT.f2; have f3 := hT.f3
    have hmv := hT.2.2.2.2.1
    simp only [Out.holds, decide_eq_true_eq, decide_eq_false_iff_not, beq_iff_eq, beq_eq_false_iff_ne, bne_iff_ne, ne_eq, bne_eq_false_iff_eq, Bool.true_and, Bool.and_true, Bool.not_eq_true', Bool.not_eq_false', Bool.and_eq_true, Bool.or_eq_true, Bool.and_eq_false_imp, true_implies, true_and, Bool.not_true, Bool.not_false, Bool.false_eq_true, Bool.true_eq_false, false_implies, and_true, beq_self_eq_true, Decidable.not_not, not_true_eq_false, not_false_eq_true]
    refine ⟨rfl, rfl, _, _, _, f1, rfl, rfl, _, _, _, f2, rfl, rfl, _, f3, ⟨by omega, by omega, by omega⟩, ⟨by omega, by omega⟩, al2_ok, ?_⟩
    obtain ⟨g1, g2, g3, g4⟩ := hF
    have hnn : (L.moved : Int).toNat = L.moved := Int.toNat_natCast _
    simp only [hnn]
    generalize ha : (if L.O.length = L.moved then L.oo else shiftA L.oo (L.moved * 1)) = a1
    have hlen : (rowsAll L).length = (L.B.flatMap ents).length + ((L.O.drop L.moved).flatMap ents).length := by simp [rowsAll]
    have hs0 : ∀ i, i < L.B.length → (some (L.bb, 0) : Adr).isSome = true ∧ ∃ o, p.at (shiftA (some (L.bb, 0)) (i * 1)) [.ptr o] ∧ Seg p o (L.B.getD i []) := Arr.rows hT.2.2.1 (Nat.zero_le _)
    have hs1 : ∀ i, i < (L.O.drop L.moved).length → a1.isSome = true ∧ ∃ o, p.at (shiftA a1 (i * 1)) [.ptr o] ∧ Seg p o ((L.O.drop L.moved).getD i []) := by
      intro i hi
      have hi' := hi
      rw [List.length_drop] at hi'
      have hO : L.O ≠ [] := fun e => by rw [e] at hi'; simp at hi'
      have ea : a1 = some (L.ob, L.moved) := by
        rw [← ha, if_neg (by omega)]; unfold TL.oo; rw [if_neg hO]; simp [shiftA]
      rw [ea]; exact Arr.rows (hT.2.2.2.1 hO) hmv i hi
    refine ⟨fun q => q = ⟨⟨p, 0, some (L.bb, 0), L.B.length, L.B.length, a1, L.O.length - L.moved, L.O.length - L.moved, some (L.bb, 0), L.B.length, L.B.length, 0⟩, L.B, ⟨0, [], 0⟩, rfl, rfl, (by show L.B.length ≤ _; omega), hs0, (by show 0 + _ ≤ _; omega)⟩, ⟨by decide, SImp.of_wk (ren := [(3, 99)]) _ ?_ rfl⟩, ?_⟩
    · exact ⟨⟨AV.sub_same _, AV.sub_same _, AV.sub_same _, AV.sub_same _, AV.sub_same _, AV.sub_lit', AV.sub_nilS, trivial⟩, ⟨.none _ _, .same _, .same _, trivial⟩, rfl, tl_ok rfl, ⟨.inr rfl, .inr rfl, trivial⟩, ⟨Nat.le_of_ble_eq_true rfl, rfl⟩⟩
    · rintro _ rfl sp1
      refine ⟨⟨by omega, by omega⟩, al2_ok, fun q => q = ⟨⟨p, 1, some (L.bb, 0), L.B.length, L.B.length, a1, L.O.length - L.moved, L.O.length - L.moved, a1, L.O.length - L.moved, L.O.length - L.moved, 0⟩, L.O.drop L.moved, ⟨0, [] ++ L.B.flatMap ents, sp1⟩, rfl, (by simp), (by show L.O.length - L.moved ≤ _; omega), hs1, (by show ([] ++ L.B.flatMap ents).length + _ ≤ _; rw [List.nil_append]; omega)⟩, ⟨by decide, SImp.of_wk (ren := [(5, 3)]) _ ?_ rfl⟩, ?_⟩
      · (refine ⟨?_, ?_, rfl, tl_ok rfl, ?_, ⟨Nat.le_of_ble_eq_true rfl, rfl⟩⟩ <;> (repeat' first | with_reducible exact trivial | (exact AV.sub_lit') | exact AV.sub_same _ | exact .same _ | exact .inr rfl | exact .inl (in_ok rfl) | exact AV.sub_lit' | exact AV.sub_nilS | exact .none _ _ | exact trivial | refine ⟨?_, ?_⟩))
      · rintro _ rfl sp2
        exact ⟨hN, fun ys hys => ⟨_, p, _, H ys sp2 hys, ⟨_, HImp.refl _ _, rfl, ⟨⟨fun _ => 5, ⟨.same _, trivial⟩, AV.sub_same _⟩, rfl, rfl⟩⟩⟩⟩
  · exact H.elim

end Sx
end Go.Proofs.Ytkadlfadmjhahaa

/-
  Plain tables: the row of all entries; no program in sight.
-/
namespace Go.Proofs.Ytkadlfadmjhahaa
namespace Sx
open Go
set_option linter.unusedSimpArgs false
set_option linter.unusedVariables false

def TM.all (t : TM) : List Ent := t.B.flatten ++ (t.O.drop t.moved).flatten
theorem rows_all (L : TL) : rowsAll L = L.tm.all := by
  unfold rowsAll TM.all TL.tm
  dsimp only
  rw [List.flatMap_def, List.flatMap_def, List.map_drop]
theorem TM.all_length (t : TM) : t.all.length = t.total := by
  unfold TM.all TM.total
  rw [List.length_append, List.length_flatten, List.length_flatten]
theorem getD_of {α : Type} {l : List α} {d : α} {i : Nat} (h : i < l.length) : l.getD i d = l[i] := by rw [List.getD_eq_getElem?_getD, List.getElem?_eq_getElem h]; rfl
theorem TM.mem_all {t : TM} (h : t.Core) (e : Ent) : e ∈ t.all ↔ t.get e.key = some e := by
  unfold TM.all
  rw [List.mem_append]
  constructor
  · rintro (hm | hm)
    · obtain ⟨l, hl, he⟩ := List.mem_flatten.1 hm
      obtain ⟨i, hi, rfl⟩ := List.mem_iff_getElem.1 hl
      have hq : t.live (false, i) := by unfold TM.live; simpa using hi
      refine TM.get_mem h hq ?_
      show e ∈ t.B.getD i []
      rw [getD_of hi]; exact he
    · obtain ⟨l, hl, he⟩ := List.mem_flatten.1 hm
      obtain ⟨i, hi, rfl⟩ := List.mem_iff_getElem.1 hl
      rw [List.length_drop] at hi
      have hq : t.live (true, t.moved + i) := by unfold TM.live; simp only [if_true]; omega
      refine TM.get_mem h hq ?_
      show e ∈ t.O.getD (t.moved + i) []
      rw [getD_of (by omega)]
      rwa [List.getElem_drop] at he
  · intro hg
    obtain ⟨_, h2, h3⟩ := TM.get_some h hg
    generalize t.pl e.key = q at h2 h3
    obtain ⟨o, i⟩ := q
    unfold TM.live at h2
    unfold TM.row at h3
    cases o
    · left
      have hi : i < t.B.length := by simpa using h2
      have h3 : e ∈ t.B.getD i [] := h3
      rw [getD_of hi] at h3
      exact List.mem_flatten.2 ⟨_, List.getElem_mem hi, h3⟩
    · right
      simp only [if_true] at h2
      have h3 : e ∈ t.O.getD i [] := h3
      rw [getD_of h2.2] at h3
      refine List.mem_flatten.2 ⟨t.O[i], ?_, h3⟩
      have : i - t.moved < (t.O.drop t.moved).length := by rw [List.length_drop]; omega
      have e1 : (t.O.drop t.moved)[i - t.moved] = t.O[i] := by rw [List.getElem_drop]; congr 1; omega
      rw [← e1]; exact List.getElem_mem this
theorem flat_nodup (pl : Int → Plc) : ∀ (ls : List (List Ent)) (P : Nat → Plc), (∀ i j, P i = P j → i = j) → (∀ i, i < ls.length → ∀ e ∈ ls.getD i [], pl e.key = P i) → (∀ i, i < ls.length → ((ls.getD i []).map (·.key)).Nodup) → (ls.flatten.map (·.key)).Nodup
  | [], _, _, _, _ => List.nodup_nil
  | l :: ls, P, hP, h1, h2 => by
    rw [List.flatten_cons, List.map_append, List.nodup_append]
    refine ⟨h2 0 (Nat.zero_lt_succ _), flat_nodup pl ls (fun i => P (i + 1)) (fun i j e => Nat.succ.inj (hP _ _ e)) (fun i hi e he => h1 (i + 1) (Nat.succ_lt_succ hi) e he) (fun i hi => h2 (i + 1) (Nat.succ_lt_succ hi)), ?_⟩
    intro a ha b hb e
    obtain ⟨x, hx, rfl⟩ := List.mem_map.1 ha
    obtain ⟨y, hy, rfl⟩ := List.mem_map.1 hb
    obtain ⟨m, hm, hy⟩ := List.mem_flatten.1 hy
    obtain ⟨i, hi, rfl⟩ := List.mem_iff_getElem.1 hm
    have a1 := h1 0 (Nat.zero_lt_succ _) x hx
    have a2 := h1 (i + 1) (Nat.succ_lt_succ hi) y (by rw [List.getD_cons_succ, getD_of hi]; exact hy)
    rw [← e, a1] at a2
    have := hP _ _ a2; omega
theorem TM.all_nodup {t : TM} (h : t.Core) : (t.all.map (·.key)).Nodup := by
  unfold TM.all
  rw [List.map_append, List.nodup_append]
  have hl1 : ∀ i, i < t.B.length → t.live (false, i) := fun i hi => by unfold TM.live; simpa using hi
  have hl2 : ∀ i, i < (t.O.drop t.moved).length → t.live (true, t.moved + i) ∧ (t.O.drop t.moved).getD i [] = t.row (true, t.moved + i) := fun i hi => by
    rw [List.length_drop] at hi
    refine ⟨by unfold TM.live; simp only [if_true]; omega, ?_⟩
    show _ = t.O.getD (t.moved + i) []
    simp only [List.getD, List.getElem?_drop]
  refine ⟨flat_nodup t.pl t.B (fun i => (false, i)) (fun i j e => congrArg Prod.snd e) (fun i hi e he => h.home _ (hl1 i hi) e he) (fun i hi => h.nd _ (hl1 i hi)),
    flat_nodup t.pl (t.O.drop t.moved) (fun i => (true, t.moved + i)) (fun i j e => Nat.add_left_cancel (congrArg Prod.snd e)) (fun i hi e he => by obtain ⟨a, b⟩ := hl2 i hi; rw [b] at he; exact h.home _ a e he) (fun i hi => by obtain ⟨a, b⟩ := hl2 i hi; rw [b]; exact h.nd _ a), ?_⟩
  intro a ha b hb e
  obtain ⟨x, hx, rfl⟩ := List.mem_map.1 ha
  obtain ⟨y, hy, rfl⟩ := List.mem_map.1 hb
  obtain ⟨m, hm, hx⟩ := List.mem_flatten.1 hx
  obtain ⟨i, hi, rfl⟩ := List.mem_iff_getElem.1 hm
  obtain ⟨m, hm, hy⟩ := List.mem_flatten.1 hy
  obtain ⟨j, hj, rfl⟩ := List.mem_iff_getElem.1 hm
  have a1 := h.home _ (hl1 i hi) x (by show x ∈ t.B.getD i []; rw [getD_of hi]; exact hx)
  obtain ⟨b1, b2⟩ := hl2 j hj
  have a2 := h.home _ b1 y (by rw [← b2, getD_of hj]; exact hy)
  rw [← e, a1] at a2
  cases a2

/-- The row of all entries of what is held: ascending by key, each that is held once. -/
structure AllRow (f : Int → Option Ent) (ys : List Ent) : Prop where
  asc : ys.Pairwise (fun a b => a.key < b.key)
  mem : ∀ e, e ∈ ys ↔ f e.key = some e
theorem AllRow.of {f : Int → Option Ent} {xs ys : List Ent} (hp : ys.Perm xs) (ha : ys.Pairwise (fun a b => a.key ≤ b.key)) (hn : (xs.map (·.key)).Nodup) (hm : ∀ e, e ∈ xs ↔ f e.key = some e) : AllRow f ys := by
  have hn' : (ys.map (·.key)).Nodup := (hp.map (·.key)).nodup_iff.2 hn
  refine ⟨?_, fun e => hp.mem_iff.trans (hm e)⟩
  have h2 : ys.Pairwise (fun a b => a.key ≠ b.key) := List.pairwise_map.1 hn'
  exact (ha.and h2).imp fun ⟨a, b⟩ => by omega
end Sx
end Go.Proofs.Ytkadlfadmjhahaa

/-
  Tables: lengths and chains: the runs of the machine.
-/
namespace Go.Proofs.Ytkadlfadmjhahaa
namespace Sx
open Go
set_option maxRecDepth 100000
set_option linter.unusedVariables false

noncomputable def cfgL0 : Cfg Try.prog V := ⟨tab, kinds, fun _ => none, fun _ => none, fun _ _ => none⟩
structure XCh where
  x : Option (Nat × Nat)
  ys : List Int
  sp : Nat
def CI (p : Pool) (z : XCh) : St V := ⟨[(5, .sl false 3 0 1 z.ys.length (z.ys.length + z.sp)), (6, .rp z.x)], [(3, .arr 3 Kd.int z.ys z.sp), (0, .pool p)], 4, 40, TQ⟩
structure PCh where
  p : Pool
  ch : Chn
  x0 : Option (Nat × Nat)
  hS : Seg p x0 ch
  hn : ch.length ≤ 1099511627776
def keysOf (c : Chn) : List Int := (ents c).map (·.key)
def CL : LoopS V := trimLoop (trimSt [5, 6] [0, 3]) (loopH 3 (fun p : PCh => CI p.p ⟨p.x0, [], 0⟩) (fun p (_ : Nat) => True) (fun p sp => CI p.p ⟨none, keysOf p.ch, sp⟩))
noncomputable def cfgL1 : Cfg Try.prog V := ⟨tab, kinds, fun _ => none, fun _ => none, fun f id => match f, id with | 26, 0 => some CL | _, _ => none⟩
theorem tlen (p : Pool) (b : Nat) : runF cfgL0 60 14 Try.f14 [.rp (some (b, 0))] [(0, .pool p)] 2 = Out.need ((some (b, (0 : Nat))).isSome = true) (Out.need ((some (b, (0 : Nat))).isSome = true) (Out.ex Int fun y => Out.need (p.at (shiftA (some (b, (0 : Nat))) (4 : Nat)) [PD.int .i64 y]) (Out.fin (.int .i64 y) [((0 : Nat), Blk.pool p)] (2 : Nat)))) := by kernel_rfl

theorem tleft (p : Pool) (b : Nat) : runF cfgL0 60 16 Try.f16 [.rp (some (b, 0))] [(0, .pool p)] 2 = Out.need ((some (b, (0 : Nat))).isSome = true) (Out.need ((some (b, (0 : Nat))).isSome = true) (Out.ex (Option (Nat × Nat)) fun y => Out.ex Nat fun y_1 => Out.ex Nat fun y_2 => Out.need (p.at (shiftA (some (b, (0 : Nat))) (2 : Nat)) [PD.sl y y_1 y_2]) (Out.need ((some (b, (0 : Nat))).isSome = true) (Out.need ((some (b, (0 : Nat))).isSome = true) (Out.ex Int fun y => Out.need (p.at (shiftA (some (b, (0 : Nat))) (3 : Nat)) [PD.int .i64 y]) (Out.fin (.int .i64 (IntKind.i64.wrap ((↑y_1 : Int) - y))) [((0 : Nat), Blk.pool p)] (2 : Nat))))))) := by kernel_rfl

theorem tbuck (p : Pool) (b : Nat) : runF cfgL0 60 17 Try.f17 [.rp (some (b, 0))] [(0, .pool p)] 2 = Out.need ((some (b, (0 : Nat))).isSome = true) (Out.need ((some (b, (0 : Nat))).isSome = true) (Out.ex (Option (Nat × Nat)) fun y => Out.ex Nat fun y_1 => Out.ex Nat fun y_2 => Out.need (p.at (shiftA (some (b, (0 : Nat))) (1 : Nat)) [PD.sl y y_1 y_2]) (Out.fin (.int .i64 (↑y_1 : Int)) [((0 : Nat), Blk.pool p)] (2 : Nat)))) := by kernel_rfl

theorem tbch (p : Pool) (z : XCh) : runCode cfgL0 60 26 (loopOf Try.f26 0) (CI p z) (stopT (trimSt [5, 6] [0, 3, 4, 5])) = Out.ite (!z.x.isNone) (Out.need (z.x.isSome = true) (Out.need (z.x.isSome = true) (Out.need ((shiftA z.x (0 : Nat)).isSome = true) (Out.ex Int fun y => Out.need (p.at (shiftA (shiftA z.x (0 : Nat)) (0 : Nat)) [PD.int .i64 y]) (Out.need ((0 : Nat) = (0 : Nat) ∧ z.ys.length = z.ys.length ∧ z.ys.length + z.3 = z.ys.length + z.3 ∧ (z.ys.length + (1 : Nat)) * (8 : Nat) ≤ (140737488355328 : Nat)) (Out.all Nat fun y_1 => Out.need (z.x.isSome = true) (Out.need (z.x.isSome = true) (Out.ex (Option (Nat × Nat)) fun y_2 => Out.need (p.at (shiftA z.x (4 : Nat)) [PD.ptr y_2]) (Out.stop EX.nx {env := [((5 : Nat), .sl false (5 : Nat) (0 : Nat) (1 : Nat) (z.ys.length + (1 : Nat)) (z.ys.length + (1 : Nat) + y_1)), ((6 : Nat), AV.rp y_2)], heap := [((5 : Nat), .arr (3 : Nat) Kd.int (z.ys ++ [y]) y_1), ((4 : Nat), .cells (3 : Nat) [.int .i64 y]), ((0 : Nat), Blk.pool p)], nx := (6 : Nat), nt := (40 : Nat), tl := [(3 : Nat), (0 : Nat), (1 : Nat), (2 : Nat), (3 : Nat), (4 : Nat), (5 : Nat), (6 : Nat), (7 : Nat), (8 : Nat), (9 : Nat), (10 : Nat), (11 : Nat), (12 : Nat), (13 : Nat), (14 : Nat), (15 : Nat), (16 : Nat)] : St V }))))))))) (Out.stop (EX.ex (0 : Nat)) {env := [((5 : Nat), .sl false (3 : Nat) (0 : Nat) (1 : Nat) z.ys.length (z.ys.length + z.3)), ((6 : Nat), AV.rp z.x)], heap := [((3 : Nat), .arr (3 : Nat) Kd.int z.ys z.3), ((0 : Nat), Blk.pool p)], nx := (4 : Nat), nt := (40 : Nat), tl := [(0 : Nat), (1 : Nat), (2 : Nat), (3 : Nat), (4 : Nat), (5 : Nat), (6 : Nat), (7 : Nat), (8 : Nat), (9 : Nat), (10 : Nat), (11 : Nat), (12 : Nat), (13 : Nat), (14 : Nat), (15 : Nat), (16 : Nat)] : St V }) := by kernel_rfl

theorem tchain (p : Pool) (b : Nat) (k : Int) : runF cfgL1 60 26 Try.f26 [.rp (some (b, 0)), .int .i64 k] [(0, .pool p)] 3 = Out.ite (decide (k < (0 : Int))) (Out.fin .nilS [((0 : Nat), Blk.pool p)] (3 : Nat)) (Out.need ((some (b, (0 : Nat))).isSome = true) (Out.need ((some (b, (0 : Nat))).isSome = true) (Out.ex (Option (Nat × Nat)) fun y => Out.ex Nat fun y_1 => Out.ex Nat fun y_2 => Out.need (p.at (shiftA (some (b, (0 : Nat))) (1 : Nat)) [PD.sl y y_1 y_2]) (Out.ite (decide (k ≥ (↑y_1 : Int))) (Out.fin .nilS [((0 : Nat), Blk.pool p)] (3 : Nat)) (Out.need ((some (b, (0 : Nat))).isSome = true) (Out.need ((some (b, (0 : Nat))).isSome = true) (Out.ex (Option (Nat × Nat)) fun y => Out.ex Nat fun y_3 => Out.ex Nat fun y_4 => Out.need (p.at (shiftA (some (b, (0 : Nat))) (1 : Nat)) [PD.sl y y_3 y_4]) (Out.need ((0 : Int) ≤ k ∧ k < (↑y_3 : Int) ∧ y.isSome = true) (Out.ex (Option (Nat × Nat)) fun y_5 => Out.need (p.at (shiftA y (k.toNat * (1 : Nat))) [PD.ptr y_5]) (Out.need (LoopFor Try.prog (26 : Nat) (0 : Nat) (loopOf Try.f26 (0 : Nat)) CL) (Out.ex (PCh → Prop) fun y => Out.need ((3 : Nat) ≤ (3 : Nat) ∧ SImp (3 : Nat) {env := [((5 : Nat), .nilS), ((6 : Nat), AV.rp y_5)], heap := [((0 : Nat), Blk.pool p)], nx := (3 : Nat), nt := (40 : Nat), tl := [] : St V } (fun p => CI p.p {x := p.x0, ys := [], sp := (0 : Nat) : XCh }) y) (Out.all PCh fun y_6 => Out.asm (y y_6) (Out.all Nat fun y => Out.asm ((fun p x => True) y_6 y) (Out.fin (.sl false (3 : Nat) (0 : Nat) (1 : Nat) {x := none, ys := keysOf y_6.ch, sp := y : XCh }.ys.length ({x := none, ys := keysOf y_6.ch, sp := y : XCh }.ys.length + y)) [((3 : Nat), .arr (3 : Nat) Kd.int {x := none, ys := keysOf y_6.ch, sp := y : XCh }.ys y), ((0 : Nat), Blk.pool y_6.p)] (4 : Nat))))))))))))))) := by kernel_rfl

end Sx
end Go.Proofs.Ytkadlfadmjhahaa

/-
  Tables: lengths, and the keys of a chain: the contracts.
-/
namespace Go.Proofs.Ytkadlfadmjhahaa
namespace Sx
open Go
set_option linter.unusedSimpArgs false
set_option linter.unusedVariables false

theorem cfgL0_ok : cfgL0.ok := ⟨tab_met, kinds_met, mixed_met, fun g fn h => (by cases h), fun g H h => (by cases h)⟩
theorem cfgL1_ok : cfgL1.ok := ⟨cfgL0_ok.τ, cfgL0_ok.κ, cfgL0_ok.mixed, cfgL0_ok.fns, cfgL0_ok.hooks⟩

def TM.left (t : TM) : Nat := t.O.length - t.moved
def TL.left (L : TL) : Nat := L.O.length - L.moved
def runTLen : RunPool V := fun p ar K => match ar with
  | [.val (.rp o)] => .ex Nat fun b => .need (o = some (b, 0)) (.ex TL fun L => .need (TabAt p b L) (K (.int .i64 (L.len : Int)) p []))
  | _ => .bad 500
theorem hTLen : HookOk Try.prog 14 (hookPool [.val] runTLen) := by
  refine pool_hook (C := cfgL0) cfgL0_ok (n := 60) (fn := Try.f14) ⟨by kernel_rfl, by kernel_rfl⟩ (by kernel_rfl) ?_
  intro M p ar K0 H
  unfold runTLen at H
  split at H
  · rename_i o
    obtain ⟨b, rfl, L, hT, H⟩ := H
    refine ⟨show 1 ≤ _ by decide +kernel, ?_⟩
    show (runF cfgL0 60 14 Try.f14 [.rp (some (b, 0))] [(0, .pool p)] 2).holds _
    rw [tlen]
    exact ⟨rfl, rfl, _, at_whole hT.1 4 _ rfl (by simp), _, p, _, H, endPool (AV.sub_same _) rfl rfl⟩
  · exact H.elim
def runTBuck : RunPool V := fun p ar K => match ar with
  | [.val (.rp o)] => .ex Nat fun b => .need (o = some (b, 0)) (.ex TL fun L => .need (TabAt p b L) (K (.int .i64 (L.B.length : Int)) p []))
  | _ => .bad 500
theorem hTBuck : HookOk Try.prog 17 (hookPool [.val] runTBuck) := by
  refine pool_hook (C := cfgL0) cfgL0_ok (n := 60) (fn := Try.f17) ⟨by kernel_rfl, by kernel_rfl⟩ (by kernel_rfl) ?_
  intro M p ar K0 H
  unfold runTBuck at H
  split at H
  · rename_i o
    obtain ⟨b, rfl, L, hT, H⟩ := H
    refine ⟨show 1 ≤ _ by decide +kernel, ?_⟩
    show (runF cfgL0 60 17 Try.f17 [.rp (some (b, 0))] [(0, .pool p)] 2).holds _
    rw [tbuck]
    exact ⟨rfl, rfl, _, _, _, hT.f1, _, p, _, H, endPool (AV.sub_same _) rfl rfl⟩
  · exact H.elim
def runTLeft : RunPool V := fun p ar K => match ar with
  | [.val (.rp o)] => .ex Nat fun b => .need (o = some (b, 0)) (.ex TL fun L => .need (TabAt p b L ∧ L.fits) (K (.int .i64 (L.left : Int)) p []))
  | _ => .bad 500
theorem hTLeft : HookOk Try.prog 16 (hookPool [.val] runTLeft) := by
  refine pool_hook (C := cfgL0) cfgL0_ok (n := 60) (fn := Try.f16) ⟨by kernel_rfl, by kernel_rfl⟩ (by kernel_rfl) ?_
  intro M p ar K0 H
  unfold runTLeft at H
  split at H
  · rename_i o
    obtain ⟨b, rfl, L, ⟨hT, hF⟩, H⟩ := H
    refine ⟨show 1 ≤ _ by decide +kernel, ?_⟩
    show (runF cfgL0 60 16 Try.f16 [.rp (some (b, 0))] [(0, .pool p)] 2).holds _
    rw [tleft]
    have hm := hT.2.2.2.2.1
    obtain ⟨g1, g2, g3, g4⟩ := hF
    refine ⟨rfl, rfl, _, _, _, hT.f2, rfl, rfl, _, hT.f3, _, p, _, H, endPool (AV.sub_int ?_) rfl rfl⟩
    have : ((L.left : Nat) : Int) = (L.O.length : Int) - (L.moved : Int) := by unfold TL.left; omega
    rw [this]; exact wrap_low (by omega) (by omega)
  · exact H.elim

theorem chbody (p : Pool) (r : Chn) (z : XCh) (hs : Seg p z.x r) (hn : z.ys.length + r.length ≤ 1099511627776) (Q : EX → St V → Prop) (F : AV → Heap V → Nat → Prop)
    (hnx : ∀ (ST : St V) a e c' o' sp', r = (a, e) :: c' → Seg p o' c' → Wk 3 [(3, 5)] ST (CI p ⟨o', z.ys ++ [e.key], sp'⟩) → Q .nx ST)
    (hex : ∀ ST : St V, r = [] → Wk 3 [(3, 3)] ST (CI p z) → Q (.ex 0) ST) :
    (runCode cfgL0 60 26 (loopOf Try.f26 0) (CI p z) (stopT (trimSt [5, 6] [0, 3, 4, 5]))).holds ⟨Q, F⟩ := by
  rw [tbch]
  obtain ⟨x, ys, sp⟩ := z
  simp only [Out.holds, decide_eq_true_eq, decide_eq_false_iff_not, beq_iff_eq, beq_eq_false_iff_ne, bne_iff_ne, ne_eq, bne_eq_false_iff_eq, Bool.true_and, Bool.and_true, Bool.not_eq_true', Bool.not_eq_false', Bool.and_eq_true, Bool.or_eq_true, Bool.and_eq_false_imp, true_implies, true_and, Bool.not_true, Bool.not_false, Bool.false_eq_true, Bool.true_eq_false, false_implies, and_true, beq_self_eq_true, Decidable.not_not, not_true_eq_false, not_false_eq_true]
  cases r with
  | nil =>
    have hx : x = none := hs
    subst hx
    exact ⟨fun h => by simp at h, fun _ => hex _ rfl (by (refine ⟨?_, ?_, rfl, tl_ok rfl, ?_, ⟨Nat.le_of_ble_eq_true rfl, rfl⟩⟩ <;> (repeat' first | with_reducible exact trivial | exact AV.sub_same _ | exact .same _ | exact .inr rfl | exact .inl (in_ok rfl) | exact AV.sub_lit' | exact AV.sub_nilS | exact .none _ _ | exact trivial | refine ⟨?_, ?_⟩)))⟩
  | cons y c' =>
    obtain ⟨a, e⟩ := y
    obtain ⟨hx, o', h1, h2⟩ := hs
    have hx : x = some (a, 0) := hx
    subst hx
    have hb : (ys ++ [e.key]).length * 8 ≤ 140737488355328 := by simp only [List.length_cons, List.length_append, List.length_nil] at hn ⊢; omega
    have e1 : ys.length + 1 = (ys ++ [e.key]).length := by simp
    refine ⟨fun _ => ⟨rfl, rfl, rfl, e.key, at_whole h1 0 _ rfl (by simp [linkPD]), by rw [e1]; exact hb, fun sp' => ⟨rfl, rfl, o', at_whole h1 4 _ rfl (by simp [linkPD]), ?_⟩⟩, fun h => by simp at h⟩
    rw [e1]
    exact hnx _ a e c' o' sp' rfl h2 (by (refine ⟨?_, ?_, rfl, tl_ok rfl, ?_, ⟨Nat.le_of_ble_eq_true rfl, rfl⟩⟩ <;> (repeat' first | with_reducible exact trivial | exact AV.sub_same _ | exact .same _ | exact .inr rfl | exact .inl (in_ok rfl) | exact AV.sub_lit' | exact AV.sub_nilS | exact .none _ _ | exact trivial | refine ⟨?_, ?_⟩)))
structure JCh (p : PCh) (x : Chn × XCh) : Prop where
  s : Seg p.p x.2.x x.1
  e : x.2.ys ++ keysOf x.1 = keysOf p.ch
  n : x.2.ys.length + x.1.length ≤ 1099511627776
theorem cl_ok : LoopOk Try.prog 0 (loopOf Try.f26 0) CL := by
  refine trimLoop_ok (trim_ok _ _) (loopTH_ok (C := cfgL0) cfgL0_ok (f := 26) (n := 60) (trim_ok [5, 6] [0, 3, 4, 5]) 3 (fun (p : PCh) (x : Chn × XCh) => CI p.p x.2) JCh (fun p => (p.ch, ⟨p.x0, [], 0⟩)) (fun p x => x.1.length) (fun _ (_ : Nat) => True) (fun p sp => CI p.p ⟨none, keysOf p.ch, sp⟩) (fun p => ⟨p.hS, rfl, by simpa using p.hn⟩) ?_)
  intro p x hx
  obtain ⟨r, z⟩ := x
  obtain ⟨h1, h2, h3⟩ := hx
  refine chbody p.p r z h1 h3 _ _ (fun ST a e c' o' sp' hr hs hw => SImp.of_wk (c', ⟨o', z.ys ++ [e.key], sp'⟩) hw ⟨⟨hs, ?_, ?_⟩, ?_⟩) (fun ST hr hw => ⟨rfl, ?_⟩)
  · subst hr; rw [← h2]; simp [keysOf, ents]
  · subst hr; simp only [List.length_cons, List.length_append, List.length_nil] at h3 ⊢; omega
  · subst hr; simp
  · subst hr
    obtain ⟨x, ys, sp⟩ := z
    have hx : x = none := h1
    subst hx
    have hy : ys = keysOf p.ch := by rw [← h2]; simp [keysOf, ents]
    subst hy
    exact SImp.of_wk sp hw trivial

def TM.chainKeys (t : TM) (k : Int) : List Int := if 0 ≤ k ∧ k < (t.B.length : Int) then (t.B.getD k.toNat []).map (·.key) else []
def runTChain : RunPool V := fun p ar K => match ar with
  | [.val (.rp o), .int .i64 k] => .ex Nat fun b => .need (o = some (b, 0)) (.ex TL fun L => .need (TabAt p b L ∧ L.fits ∧ ∀ i, (L.B.getD i []).length ≤ 1099511627776)
      (.all Nat fun sp => K (.sl false 1 0 1 (L.tm.chainKeys k).length ((L.tm.chainKeys k).length + sp)) p [.arr 3 Kd.int (L.tm.chainKeys k) sp]))
  | _ => .bad 500
theorem chainKeys_in {L : TL} {k : Int} (h0 : 0 ≤ k) (h1 : k < (L.B.length : Int)) : L.tm.chainKeys k = keysOf (L.B.getD k.toNat []) := by
  unfold TM.chainKeys
  have e : L.tm.B.length = L.B.length := by simp [TL.tm]
  rw [if_pos ⟨h0, by rw [e]; exact h1⟩]
  have : L.tm.B.getD k.toNat [] = ents (L.B.getD k.toNat []) := by
    show (L.B.map ents).getD k.toNat [] = _
    simp only [List.getD_eq_getElem?_getD, List.getElem?_map]
    cases L.B[k.toNat]? <;> rfl
  rw [this]; rfl
theorem chainKeys_out {L : TL} {k : Int} (h : k < 0 ∨ k ≥ (L.B.length : Int)) : L.tm.chainKeys k = [] := by
  unfold TM.chainKeys
  have e : L.tm.B.length = L.B.length := by simp [TL.tm]
  rw [if_neg (by rw [e]; omega)]
theorem hTChain : HookOk Try.prog 26 (hookPool [.val, .int .i64] runTChain) := by
  refine pool_hook (C := cfgL1) cfgL1_ok (n := 60) (fn := Try.f26) ⟨by kernel_rfl, by kernel_rfl⟩ (by kernel_rfl) ?_
  intro M p ar K0 H
  unfold runTChain at H
  split at H
  · rename_i o k
    obtain ⟨b, rfl, L, ⟨hT, hF, hC⟩, H⟩ := H
    refine ⟨show 2 ≤ _ by decide +kernel, ?_⟩
    show (runF cfgL1 60 26 Try.f26 [.rp (some (b, 0)), .int .i64 k] [(0, .pool p)] 3).holds _
    rw [tchain]
    simp only [Out.holds, decide_eq_true_eq, decide_eq_false_iff_not, beq_iff_eq, beq_eq_false_iff_ne, bne_iff_ne, ne_eq, bne_eq_false_iff_eq, Bool.true_and, Bool.and_true, Bool.not_eq_true', Bool.not_eq_false', Bool.and_eq_true, Bool.or_eq_true, Bool.and_eq_false_imp, true_implies, true_and, Bool.not_true, Bool.not_false, Bool.false_eq_true, Bool.true_eq_false, false_implies, and_true, beq_self_eq_true, Decidable.not_not, not_true_eq_false, not_false_eq_true]
    have out : L.tm.chainKeys k = [] → ∃ v p' E, Out.holds M (K0 v p' E) ∧ EndPool 3 AV.nilS [((0 : Nat), Blk.pool p)] v p' E := fun he => by
      have h0 := H 0
      rw [he] at h0
      refine ⟨_, p, _, h0, ⟨_, HImp.refl _ _, rfl, ⟨⟨fun _ => 3, ⟨.none _ _, trivial⟩, AV.sub_nilS⟩, rfl, rfl⟩⟩⟩
    refine ⟨fun h => out (chainKeys_out (.inl h)), fun h => ⟨rfl, rfl, _, _, _, hT.f1, fun h2 => out (chainKeys_out (.inr (by omega))), fun h2 => ?_⟩⟩
    have hlt : k.toNat < L.B.length := by omega
    have hr := Arr.rows hT.2.2.1 (Nat.zero_le _) k.toNat (by simpa using hlt)
    obtain ⟨r1, o', r2, r3⟩ := hr
    rw [List.drop_zero] at r3
    refine ⟨rfl, rfl, _, _, _, hT.f1, ⟨by omega, by omega, rfl⟩, o', r2, cl_ok, fun q => q = ⟨p, L.B.getD k.toNat [], o', r3, hC _⟩, ⟨Nat.le_refl _, SImp.of_wk (ren := [(3, 99)]) ⟨p, L.B.getD k.toNat [], o', r3, hC _⟩ ?_ rfl⟩, ?_⟩
    · (refine ⟨?_, ?_, rfl, tl_ok rfl, ?_, ⟨Nat.le_of_ble_eq_true rfl, rfl⟩⟩ <;> (repeat' first | with_reducible exact trivial | exact AV.sub_same _ | exact .same _ | exact .inr rfl | exact .inl (in_ok rfl) | exact AV.sub_lit' | exact AV.sub_nilS | exact .none _ _ | exact trivial | refine ⟨?_, ?_⟩))
    · rintro _ rfl sp
      have h0 := H sp
      rw [chainKeys_in (by omega) (by omega)] at h0
      exact ⟨_, p, _, h0, ⟨_, HImp.refl _ _, rfl, ⟨⟨fun _ => 3, ⟨.same _, trivial⟩, AV.sub_same _⟩, rfl, rfl⟩⟩⟩
  · exact H.elim

end Sx
end Go.Proofs.Ytkadlfadmjhahaa

/-
  Plain tables: how many buckets, old ones, moved ones; several tables in one pool.
-/
namespace Go.Proofs.Ytkadlfadmjhahaa
namespace Sx
open Go
set_option linter.unusedSimpArgs false
set_option linter.unusedVariables false

abbrev Shp := Nat × Nat × Nat
def TM.sh (t : TM) : Shp := (t.B.length, t.O.length, t.moved)
def shMove (s : Shp) : Shp := if s.2.1 ≤ s.2.2 then s else if s.2.1 ≤ s.2.2 + 1 then (s.1, 0, 0) else (s.1, s.2.1, s.2.2 + 1)
def shGrow (len : Nat) (s : Shp) : Shp := if s.2.1 ≤ s.2.2 ∧ s.1 < len ∧ s.1 < 65536 then (2 * s.1, s.1, s.2.2) else s
theorem move_sh (t : TM) : t.move.sh = shMove t.sh := by
  obtain ⟨l1, l2, l3, l4, l5⟩ := insAll_len (t.O.getD t.moved []) { t with moved := t.moved + 1 }
  unfold TM.move shMove TM.sh
  dsimp only
  split
  · rfl
  · split
    · show (t.stepMoved.B.length, _, _) = _
      rw [show t.stepMoved.B.length = t.B.length from l2]; rfl
    · show (t.stepMoved.B.length, t.stepMoved.O.length, t.stepMoved.moved) = _
      rw [show t.stepMoved.B.length = t.B.length from l2, show t.stepMoved.O.length = t.O.length from l1, show t.stepMoved.moved = t.moved + 1 from l3]
theorem with_sh (t : TM) (k : Int) (c : List Ent) : (t.with_ k c).sh = t.sh := by
  rw [TM.with_row]
  obtain ⟨a, b, d, _, _⟩ := t.setRow_same (t.pl k) c
  unfold TM.sh; rw [a, b, d]
theorem grow_sh (t : TM) : t.grow.sh = shGrow t.len t.sh := by
  unfold TM.grow shGrow TM.sh
  dsimp only
  split
  · simp
  · rfl
theorem put_sh {t : TM} (h : t.Good) (e : Ent) : (t.put e).sh = if (t.get e.key).isSome then shMove t.sh else shGrow (t.len + 1) (shMove t.sh) := by
  obtain ⟨m1, m2, m3⟩ := move_good h
  have ml := (move_lens t).2.1
  unfold TM.put
  rw [m3]
  cases t.get e.key with
  | some x => dsimp only; rw [with_sh, move_sh]; rfl
  | none =>
    dsimp only
    rw [grow_sh]
    show shGrow (t.move.len + 1) (insE t.move e).sh = _
    rw [ml]
    show shGrow _ (t.move.with_ _ _).sh = _
    rw [with_sh, move_sh]; rfl
theorem rem_sh {t : TM} (h : t.Good) (k : Int) : (t.remove k).sh = shMove t.sh := by
  obtain ⟨m1, m2, m3⟩ := move_good h
  unfold TM.remove
  rw [m3]
  cases t.get k with
  | some x => dsimp only; exact (with_sh _ _ _).trans (move_sh t)
  | none => dsimp only; exact move_sh t
theorem TM.key {t : TM} (h : t.Good) {k : Int} {e : Ent} (hg : t.get k = some e) : e.key = k := (TM.get_some h.core hg).1

/-! ## several tables in one pool -/
theorem good_fits {L : TL} (h : L.tm.Good) (hl : L.len ≤ 1073741824) : L.fits := by
  have e1 : L.tm.B.length = L.B.length := by simp [TL.tm]
  have e2 : L.tm.O.length = L.O.length := by simp [TL.tm]
  have := h.core.b1; have := h.core.b2; have := h.core.b3
  exact ⟨by omega, by omega, by omega, hl⟩
theorem good_tight {L : TL} (h : L.tm.Good) : L.O.length ≤ L.moved → L.O = [] := by
  intro hh
  have e2 : L.tm.O.length = L.O.length := by simp [TL.tm]
  have := h.tight (by rw [e2]; exact hh)
  exact List.eq_nil_of_length_eq_zero (by rw [← e2, this]; rfl)
theorem TabAt.other {p q : Pool} {b : Nat} {L : TL} (h : TabAt p b L) (k : ∀ n, L.lab n ≠ .no → q n = p n) : TabAt q b L := by
  obtain ⟨h1, h2, h3, h4, h5, h6⟩ := h
  refine ⟨by rw [k b (by rw [h2]; simp)]; exact h1, h2, h3.frame fun n hn => ⟨k n ?_, rfl⟩, fun hO => (h4 hO).frame fun n hn => ⟨k n ?_, rfl⟩, h5, fun n hn => by rw [k n hn]; exact h6 n hn⟩
  · rcases hn with e | ⟨i, _, e⟩ <;> rw [e] <;> simp
  · rcases hn with e | ⟨i, _, e⟩ <;> rw [e] <;> simp

abbrev Tbs := List (Nat × TM)
def t0 : Nat × TM := (0, TM.new 0)
structure TT (p : Pool) (l : Tbs) : Prop where
  ex : ∃ L : Nat → TL, (∀ i, i < l.length → TabAt p (l.getD i t0).1 (L i) ∧ (L i).tm = (l.getD i t0).2 ∧ (l.getD i t0).2.Good ∧ (l.getD i t0).2.len ≤ 1048576) ∧
    ∀ i j, i < l.length → j < l.length → i ≠ j → ∀ n, (L i).lab n ≠ .no → (L j).lab n = .no
theorem TT.good {p : Pool} {l : Tbs} (h : TT p l) {i : Nat} (hi : i < l.length) : (l.getD i t0).2.Good := by
  obtain ⟨L, h1, _⟩ := h.ex; exact (h1 i hi).2.2.1
theorem getD_set {α : Type} {l : List α} {i j : Nat} {x d : α} (hj : j < l.length) : (l.set i x).getD j d = if j = i then x else l.getD j d := by
  simp only [List.getD_eq_getElem?_getD, List.getElem?_set]
  by_cases e : i = j
  · subst e; simp [hj]
  · simp [e, Ne.symm e]
theorem TT.step {p : Pool} {l : Tbs} (h : TT p l) {i : Nat} (hi : i < l.length) : ∃ L : TL, TabAt p (l.getD i t0).1 L ∧ L.tm = (l.getD i t0).2 ∧ L.fits ∧ (L.O.length ≤ L.moved → L.O = []) ∧
    ∀ (p' : Pool) (L' : TL) (t' : TM), TabAt p' (l.getD i t0).1 L' → L'.tm = t' → t'.Good → t'.len ≤ 1048576 → Frame p p' L L' → TT p' (l.set i ((l.getD i t0).1, t')) := by
  obtain ⟨L, h1, h2⟩ := h.ex
  obtain ⟨a1, a2, a3, a4⟩ := h1 i hi
  have hlen : (L i).len ≤ 1048576 := by have := congrArg TM.len a2; rw [← this] at a4; exact a4
  refine ⟨L i, a1, a2, good_fits (by rw [a2]; exact a3) (by omega), good_tight (by rw [a2]; exact a3), fun p' L' t' b1 b2 b3 b4 fr => ⟨fun j => if j = i then L' else L j, fun j hj => ?_, fun j k hj hk hjk n hn => ?_⟩⟩
  · rw [List.length_set] at hj
    rw [getD_set hj]
    dsimp only
    by_cases e : j = i
    · simp only [if_pos e]; exact ⟨b1, b2, b3, b4⟩
    · simp only [if_neg e]
      obtain ⟨c1, c2, c3, c4⟩ := h1 j hj
      exact ⟨c1.other fun n hn => (fr n (h2 j i hj hi e n hn) (c1.2.2.2.2.2 n hn)).1, c2, c3, c4⟩
  · rw [List.length_set] at hj hk
    dsimp only at hn ⊢
    by_cases ej : j = i
    · rw [if_pos ej] at hn
      have ek : k ≠ i := fun e => hjk (ej.trans e.symm)
      rw [if_neg ek]
      by_cases hh : (L k).lab n = .no
      · exact hh
      · have hn0 : (L i).lab n = .no := h2 k i hk hi ek n hh
        exact absurd (fr n hn0 ((h1 k hk).1.2.2.2.2.2 n hh)).2 hn
    · rw [if_neg ej] at hn
      by_cases ek : k = i
      · rw [if_pos ek]; exact (fr n (h2 j i hj hi ej n hn) ((h1 j hj).1.2.2.2.2.2 n hn)).2
      · rw [if_neg ek]; exact h2 j k hj hk hjk n hn
theorem TT.nil : TT Pool.nil [] := ⟨fun _ => TL.new 0 0 0, fun i hi => by simp at hi, fun i j hi => by simp at hi⟩
theorem getD_app {α : Type} {l : List α} {x d : α} {i : Nat} : (l ++ [x]).getD i d = if i = l.length then x else l.getD i d := by
  simp only [List.getD_eq_getElem?_getD]
  by_cases h : i < l.length
  · rw [List.getElem?_append_left h, if_neg (by omega)]
  · by_cases e : i = l.length
    · subst e; simp
    · rw [if_neg e, List.getElem?_eq_none (by simp; omega), List.getElem?_eq_none (by omega)]
theorem TT.new {p : Pool} {l : Tbs} (h : TT p l) (s : Int) {p' : Pool} {b : Nat} {L' : TL} (h1 : TabAt p' b L') (h2 : L'.tm = TM.new s) (h3 : ∀ n, p n ≠ none → p' n = p n ∧ L'.lab n = .no) : TT p' (l ++ [(b, TM.new s)]) := by
  obtain ⟨L, a1, a2⟩ := h.ex
  refine ⟨fun i => if i = l.length then L' else L i, fun i hi => ?_, fun i j hi hj hij n hn => ?_⟩
  · have hi : i < l.length + 1 := by simpa using hi
    rw [getD_app]
    dsimp only
    by_cases e : i = l.length
    · simp only [if_pos e]; exact ⟨h1, h2, (new_good s).1, Nat.zero_le _⟩
    · simp only [if_neg e]
      obtain ⟨c1, c2, c3, c4⟩ := a1 i (by omega)
      exact ⟨c1.other fun n hn => (h3 n (c1.2.2.2.2.2 n hn)).1, c2, c3, c4⟩
  · have hi : i < l.length + 1 := by simpa using hi
    have hj : j < l.length + 1 := by simpa using hj
    dsimp only at hn ⊢
    by_cases ei : i = l.length
    · rw [if_pos ei] at hn
      rw [if_neg (by omega)]
      by_cases hh : (L j).lab n = .no
      · exact hh
      · exact absurd (h3 n ((a1 j (by omega)).1.2.2.2.2.2 n hh)).2 hn
    · rw [if_neg ei] at hn
      by_cases ej : j = l.length
      · rw [if_pos ej]; exact (h3 n ((a1 i (by omega)).1.2.2.2.2.2 n hn)).2
      · rw [if_neg ej]; exact a2 i j (by omega) (by omega) hij n hn

end Sx
end Go.Proofs.Ytkadlfadmjhahaa

/-
  Tables: the contracts in the words of plain tables.
-/
namespace Go.Proofs.Ytkadlfadmjhahaa
namespace Sx
open Go
set_option linter.unusedSimpArgs false
set_option linter.unusedVariables false

abbrev Tbs.at (z : Tbs × Nat) : Nat × TM := z.1.getD z.2 t0
abbrev Tbs.put (z : Tbs × Nat) (t : TM) : Tbs := z.1.set z.2 ((Tbs.at z).1, t)
structure TIn (p : Pool) (z : Tbs × Nat) (o : Option (Nat × Nat)) : Prop where
  tt : TT p z.1
  lt : z.2 < z.1.length
  at_ : o = some ((Tbs.at z).1, 0)
def runLNew : RunPool V := fun p ar K => match ar with
  | [.int .i64 s] => .ex Tbs fun l => .need (TT p l) (.all (Pool × Nat) fun y => .asm (TT y.1 (l ++ [(y.2, TM.new s)])) (K (.rp (some (y.2, 0))) y.1 []))
  | _ => .bad 500
theorem hLNew : HookOk Try.prog 10 (hookPool [.int .i64] runLNew) := by
  refine hNew.pool fun M p ar K H => ?_
  unfold runLNew at H
  unfold runNew
  split at H
  · obtain ⟨l, hl, H⟩ := H
    rintro ⟨p', b, L⟩ ⟨h1, h2, h3, h4⟩
    exact H (p', b) (hl.new _ h1 h3 h4)
  · exact H.elim
def runLPut : RunPool V := fun p ar K => match ar with
  | [.val (.rp o), .el .ent e] => .ex (Tbs × Nat) fun z => .need (TIn p z o ∧ (Tbs.at z).2.len < 1000000) (.all Pool fun p' => .asm (TT p' (Tbs.put z ((Tbs.at z).2.put e))) (K (foundAV ((Tbs.at z).2.get e.key)) p' []))
  | _ => .bad 500
theorem hLPut : HookOk Try.prog 11 (hookPool [.val, .el Kd.ent] runLPut) := by
  refine hPut.pool fun M p ar K H => ?_
  unfold runLPut at H
  unfold runPut
  split at H
  · rename_i o e
    obtain ⟨z, ⟨⟨hT, hi, ho⟩, hlen⟩, H⟩ := H
    obtain ⟨L, a1, a2, a3, a4, a5⟩ := hT.step hi
    have hg := hT.good hi
    have hl : L.len = (Tbs.at z).2.len := congrArg TM.len a2
    obtain ⟨q1, q2, q3⟩ := put_good hg e
    refine ⟨_, ho, L, ⟨a1, a3, by rw [a2]; exact (move_good hg).1, a4, by omega⟩, ?_⟩
    rintro ⟨p', L'⟩ ⟨h1, h2, h3, h4⟩
    rw [a2, (move_good hg).2.2]
    refine H p' (a5 p' L' _ h1 (by rw [h3, a2]) q1 ?_ h4)
    rw [q3]; have : (z.1.getD z.2 t0).2.len < 1000000 := hlen; split <;> omega
  · exact H.elim
def runLRem : RunPool V := fun p ar K => match ar with
  | [.val (.rp o), .int .i64 k] => .ex (Tbs × Nat) fun z => .need (TIn p z o) (.all Pool fun p' => .asm (TT p' (Tbs.put z ((Tbs.at z).2.remove k))) (K (foundAV ((Tbs.at z).2.get k)) p' []))
  | _ => .bad 500
theorem hLRem : HookOk Try.prog 12 (hookPool [.val, .int .i64] runLRem) := by
  refine hRem.pool fun M p ar K H => ?_
  unfold runLRem at H
  unfold runRem
  split at H
  · rename_i o k
    obtain ⟨z, ⟨hT, hi, ho⟩, H⟩ := H
    obtain ⟨L, a1, a2, a3, a4, a5⟩ := hT.step hi
    have hg := hT.good hi
    have hl : L.len = (Tbs.at z).2.len := congrArg TM.len a2
    obtain ⟨q1, q2, q3, q4⟩ := remove_good hg k
    have hmg := (move_good hg).2.2 k
    refine ⟨_, ho, L, ⟨a1, a3, by rw [a2]; exact (move_good hg).1, fun hn => ?_⟩, ?_⟩
    · rw [a2, hmg] at hn; have := q4 hn; rw [hl]; exact this
    · rintro ⟨p', L'⟩ ⟨h1, h2, h3, h4⟩
      rw [a2, hmg]
      refine H p' (a5 p' L' _ h1 (by rw [h3, a2]) q1 ?_ h4)
      obtain ⟨LL, b1, _⟩ := hT.ex
      have := (b1 z.2 hi).2.2.2
      rw [q3]; omega
  · exact H.elim
def runLGet : RunPool V := fun p ar K => match ar with
  | [.val (.rp o), .int .i64 k] => .ex (Tbs × Nat) fun z => .need (TIn p z o) (K (foundAV ((Tbs.at z).2.get k)) p [])
  | _ => .bad 500
theorem hLGet : HookOk Try.prog 13 (hookPool [.val, .int .i64] runLGet) := by
  refine hGet.pool fun M p ar K H => ?_
  unfold runLGet at H
  unfold runGet
  split at H
  · rename_i o k
    obtain ⟨z, ⟨hT, hi, ho⟩, H⟩ := H
    obtain ⟨L, a1, a2, a3, a4, a5⟩ := hT.step hi
    refine ⟨_, ho, L, ⟨a1, a3⟩, ?_⟩
    rw [a2]; exact H
  · exact H.elim
def runLNum (f : TM → Int) : RunPool V := fun p ar K => match ar with
  | [.val (.rp o)] => .ex (Tbs × Nat) fun z => .need (TIn p z o) (K (.int .i64 (f (Tbs.at z).2)) p [])
  | _ => .bad 500
theorem hLLen : HookOk Try.prog 14 (hookPool [.val] (runLNum fun t => (t.len : Int))) := by
  refine hTLen.pool fun M p ar K H => ?_
  unfold runLNum at H
  unfold runTLen
  split at H
  · rename_i o
    obtain ⟨z, ⟨hT, hi, ho⟩, H⟩ := H
    obtain ⟨L, a1, a2, a3, a4, a5⟩ := hT.step hi
    refine ⟨_, ho, L, a1, ?_⟩
    rw [show L.len = (Tbs.at z).2.len from congrArg TM.len a2]; exact H
  · exact H.elim
theorem hLBuck : HookOk Try.prog 17 (hookPool [.val] (runLNum fun t => (t.B.length : Int))) := by
  refine hTBuck.pool fun M p ar K H => ?_
  unfold runLNum at H
  unfold runTBuck
  split at H
  · rename_i o
    obtain ⟨z, ⟨hT, hi, ho⟩, H⟩ := H
    obtain ⟨L, a1, a2, a3, a4, a5⟩ := hT.step hi
    refine ⟨_, ho, L, a1, ?_⟩
    have : L.B.length = (Tbs.at z).2.B.length := by rw [← a2]; simp [TL.tm]
    rw [this]; exact H
  · exact H.elim
theorem hLLeft : HookOk Try.prog 16 (hookPool [.val] (runLNum fun t => (t.left : Int))) := by
  refine hTLeft.pool fun M p ar K H => ?_
  unfold runLNum at H
  unfold runTLeft
  split at H
  · rename_i o
    obtain ⟨z, ⟨hT, hi, ho⟩, H⟩ := H
    obtain ⟨L, a1, a2, a3, a4, a5⟩ := hT.step hi
    refine ⟨_, ho, L, ⟨a1, a3⟩, ?_⟩
    have : L.left = (Tbs.at z).2.left := by rw [← a2]; simp [TL.tm, TL.left, TM.left]
    rw [this]; exact H
  · exact H.elim
theorem row_le : ∀ (l : List (List Ent)) (i : Nat), (l.getD i []).length ≤ (l.map List.length).sum
  | [], i => by simp
  | x :: l, 0 => by simp
  | x :: l, i + 1 => by have := row_le l i; simp only [List.getD_cons_succ, List.map_cons, List.sum_cons]; omega
def runLChain : RunPool V := fun p ar K => match ar with
  | [.val (.rp o), .int .i64 k] => .ex (Tbs × Nat) fun z => .need (TIn p z o)
      (.all Nat fun sp => K (.sl false 1 0 1 ((Tbs.at z).2.chainKeys k).length (((Tbs.at z).2.chainKeys k).length + sp)) p [.arr 3 Kd.int ((Tbs.at z).2.chainKeys k) sp])
  | _ => .bad 500
theorem TM.chain_le {t : TM} (h : t.Good) (i : Nat) : (t.B.getD i []).length ≤ t.len := by
  have := row_le t.B i
  have e := h.len
  unfold TM.total at e; omega
theorem hLChain : HookOk Try.prog 26 (hookPool [.val, .int .i64] runLChain) := by
  refine hTChain.pool fun M p ar K H => ?_
  unfold runLChain at H
  unfold runTChain
  split at H
  · rename_i o k
    obtain ⟨z, ⟨hT, hi, ho⟩, H⟩ := H
    obtain ⟨L, a1, a2, a3, a4, a5⟩ := hT.step hi
    have hg := hT.good hi
    obtain ⟨LL, b1, _⟩ := hT.ex
    have hl := (b1 z.2 hi).2.2.2
    refine ⟨_, ho, L, ⟨a1, a3, fun i => ?_⟩, ?_⟩
    · have := TM.chain_le hg i
      rw [← a2] at this
      have e : L.tm.B.getD i [] = ents (L.B.getD i []) := by
        show (L.B.map ents).getD i [] = _
        simp only [List.getD_eq_getElem?_getD, List.getElem?_map]
        cases L.B[i]? <;> rfl
      rw [e] at this
      have e2 : (ents (L.B.getD i [])).length = (L.B.getD i []).length := by simp [ents]
      rw [e2, a2] at this; omega
    · rw [a2]; exact H
  · exact H.elim
def runLAll : RunPool V := fun p ar K => match ar with
  | [.val (.rp o)] => .ex (Tbs × Nat) fun z => .need (TIn p z o)
      (.all (List Ent) fun ys => .all Nat fun sp => .asm (AllRow (Tbs.at z).2.get ys ∧ ys.length = (Tbs.at z).2.len ∧ ys.length ≤ 1048576) (K (.sl false 1 0 4 ys.length (ys.length + sp)) p [.arr 29 .ent ys sp]))
  | _ => .bad 500
theorem hLAll : HookOk Try.prog 15 (hookPool [.val] runLAll) := by
  refine hAll.pool fun M p ar K H => ?_
  unfold runLAll at H
  unfold runAll
  split at H
  · rename_i o
    obtain ⟨z, ⟨hT, hi, ho⟩, H⟩ := H
    obtain ⟨L, a1, a2, a3, a4, a5⟩ := hT.step hi
    have hg := hT.good hi
    obtain ⟨LL, b1, _⟩ := hT.ex
    have hl := (b1 z.2 hi).2.2.2
    have hlen : (rowsAll L).length = (Tbs.at z).2.len := by rw [rows_all, a2, TM.all_length, hg.len]
    refine ⟨_, ho, L, ⟨a1, a3, by rw [hlen]; show (z.1.getD z.2 t0).2.len ≤ _; omega⟩, fun ys sp hys => ?_⟩
    have hyl := hys.1.length_eq
    rw [← hyl]
    refine H ys sp ⟨AllRow.of hys.1 hys.2 (by rw [rows_all, a2]; exact TM.all_nodup hg.core) (fun e => by rw [rows_all, a2]; exact TM.mem_all hg.core e), by rw [hyl, hlen], by rw [hyl, hlen]; exact hl⟩
  · exact H.elim

end Sx
end Go.Proofs.Ytkadlfadmjhahaa

/-
  A small case: the runs of the machine.
-/
namespace Go.Proofs.Ytkadlfadmjhahaa
namespace Sx
open Go
set_option maxRecDepth 100000
set_option linter.unusedVariables false

noncomputable def hooksL : Nat → Option (HookS V) := fun g => match g with
  | 10 => some (hookPool [.int .i64] runLNew)
  | 11 => some (hookPool [.val, .el Kd.ent] runLPut)
  | 12 => some (hookPool [.val, .int .i64] runLRem)
  | 13 => some (hookPool [.val, .int .i64] runLGet)
  | 14 => some (hookPool [.val] (runLNum fun t => (t.len : Int)))
  | 17 => some (hookPool [.val] (runLNum fun t => (t.B.length : Int)))
  | 16 => some (hookPool [.val] (runLNum fun t => (t.left : Int)))
  | 26 => some (hookPool [.val, .int .i64] runLChain)
  | 15 => some (hookPool [.val] runLAll)
  | 18 => some (hookFree [.rows Kd.ent, .rows Kd.ent] runSame)
  | _ => none
noncomputable def cfgL : Cfg Try.prog V := ⟨tab, kinds, fun _ => none, hooksL, fun _ _ => none⟩

def SI (b : Nat) (x : Nat × Pool) : St V := ⟨[(1, .rp (some (b, 0))), (2, .int .i64 (x.1 : Int))], [(0, .pool x.2)], 1, 101, TQ⟩
structure JS (b : Nat) (x : Nat × Pool) : Prop where
  le : x.1 ≤ 9
  ex : ∃ t : TM, TT x.2 [(b, t)] ∧ t.len = x.1 ∧ (∀ k, t.get k = if 0 ≤ k ∧ k < (x.1 : Int) then some ⟨k, 10 * k, 0, 0⟩ else none) ∧ t.sh = if x.1 ≤ 8 then (8, 0, 0) else (16, 8, 0)
structure PSm0 where
  b : Nat
  p0 : Pool
  h : JS b (0, p0)
def LS9 : LoopS V := trimLoop (trimSt [1, 2] [0]) (loopH 1 (fun q : PSm0 => SI q.b (0, q.p0)) (fun q (p : Pool) => JS q.b (9, p)) (fun q p => SI q.b (9, p)))
noncomputable def cfgL9 : Cfg Try.prog V := ⟨tab, kinds, fun _ => none, hooksL, fun f id => match f, id with | 9, 0 => some LS9 | _, _ => none⟩
theorem tb9 (b : Nat) (x : Nat × Pool) : runCode cfgL 60 9 (loopOf Try.f9 0) (SI b x) (stopT (trimSt [1, 2] [0])) = Out.ite (decide ((↑x.1 : Int) < (9 : Int))) (Out.ex (Tbs × Nat) fun y => Out.need (TIn x.snd y (some (b, (0 : Nat))) ∧ (Tbs.at y).snd.len < (1000000 : Nat)) (Out.all Pool fun y_1 => Out.asm (TT y_1 (Tbs.put y ((Tbs.at y).snd.put {key := (↑x.1 : Int), value := IntKind.i64.wrap ((10 : Int) * (↑x.1 : Int)), weight := (0 : Int), node := (0 : Int) : Ent }))) (Out.stop EX.nx {env := [((1 : Nat), AV.rp (some (b, (0 : Nat)))), ((2 : Nat), .int .i64 (IntKind.i64.wrap ((↑x.1 : Int) + (1 : Int))))], heap := [((0 : Nat), Blk.pool y_1)], nx := (1 : Nat), nt := (101 : Nat), tl := [(0 : Nat), (0 : Nat), (1 : Nat), (2 : Nat), (3 : Nat), (4 : Nat), (5 : Nat), (6 : Nat), (7 : Nat), (8 : Nat), (9 : Nat), (10 : Nat), (11 : Nat), (12 : Nat), (13 : Nat), (14 : Nat), (15 : Nat), (16 : Nat)] : St V }))) (Out.stop (EX.ex (0 : Nat)) {env := [((1 : Nat), AV.rp (some (b, (0 : Nat)))), ((2 : Nat), .int .i64 (↑x.1 : Int))], heap := [((0 : Nat), Blk.pool x.snd)], nx := (1 : Nat), nt := (101 : Nat), tl := [(0 : Nat), (1 : Nat), (2 : Nat), (3 : Nat), (4 : Nat), (5 : Nat), (6 : Nat), (7 : Nat), (8 : Nat), (9 : Nat), (10 : Nat), (11 : Nat), (12 : Nat), (13 : Nat), (14 : Nat), (15 : Nat), (16 : Nat)] : St V }) := by kernel_rfl

theorem t9  : runL cfgL9 60 9 Try.f9 [] [(0, .pool Pool.nil)] 1 = Out.ex Tbs fun y => Out.need (TT Pool.nil y) (Out.all (Pool × Nat) fun y_1 => Out.asm (TT y_1.fst (y ++ [(y_1.2, TM.new (1 : Int))])) (Out.ite (some (y_1.2, (0 : Nat))).isNone (Out.fin .ff [] (0 : Nat)) (Out.need (LoopFor Try.prog (9 : Nat) (0 : Nat) (loopOf Try.f9 (0 : Nat)) LS9) (Out.ex (PSm0 → Prop) fun y => Out.need ((1 : Nat) ≤ (1 : Nat) ∧ SImp (1 : Nat) {env := [((1 : Nat), AV.rp (some (y_1.2, (0 : Nat)))), ((2 : Nat), .lit .i64 (0 : Int))], heap := [((0 : Nat), Blk.pool y_1.fst)], nx := (1 : Nat), nt := (101 : Nat), tl := [(0 : Nat)] : St V } (fun q => SI q.1 ((0 : Nat), q.p0)) y) (Out.all PSm0 fun y_2 => Out.asm (y y_2) (Out.all Pool fun y => Out.asm ((fun q p => JS q.1 ((9 : Nat), p)) y_2 y) (Out.ex (Tbs × Nat) fun y_3 => Out.need (TIn ((9 : Nat), y).snd y_3 (some (y_2.1, (0 : Nat)))) (Out.ex (Tbs × Nat) fun y_4 => Out.need (TIn ((9 : Nat), y).snd y_4 (some (y_2.1, (0 : Nat)))) (Out.ex (Tbs × Nat) fun y_5 => Out.need (TIn ((9 : Nat), y).snd y_5 (some (y_2.1, (0 : Nat))) ∧ (Tbs.at y_5).snd.len < (1000000 : Nat)) (Out.all Pool fun y => Out.asm (TT y (Tbs.put y_5 ((Tbs.at y_5).snd.put {key := (3 : Int), value := (1 : Int), weight := (0 : Int), node := (0 : Int) : Ent }))) (Out.ex (Tbs × Nat) fun y_6 => Out.need (TIn y y_6 (some (y_2.1, (0 : Nat)))) (Out.ex (Tbs × Nat) fun y_7 => Out.need (TIn y y_7 (some (y_2.1, (0 : Nat)))) (Out.all Pool fun y => Out.asm (TT y (Tbs.put y_7 ((Tbs.at y_7).snd.remove (4 : Int)))) (Out.ex (Tbs × Nat) fun y_8 => Out.need (TIn y y_8 (some (y_2.1, (0 : Nat)))) (Out.ite ((fun t => (↑t.B.length : Int)) (Tbs.at y_3).snd == (16 : Int)) (Out.ite ((fun t => (↑t.left : Int)) (Tbs.at y_4).snd == (8 : Int)) (Out.ite ((((Tbs.at y_5).snd.get (3 : Int)).getD e0).value == (30 : Int)) (Out.ite ((Tbs.at y_5).snd.get (3 : Int)).isSome (Out.ite ((((Tbs.at y_6).snd.get (3 : Int)).getD e0).value == (1 : Int)) (Out.ite ((Tbs.at y_6).snd.get (3 : Int)).isSome (Out.ite ((((Tbs.at y_7).snd.get (4 : Int)).getD e0).value == (40 : Int)) (Out.ite ((Tbs.at y_7).snd.get (4 : Int)).isSome (Out.ite (!((Tbs.at y_8).snd.get (4 : Int)).isSome) (Out.ex (Tbs × Nat) fun y_9 => Out.need (TIn y y_9 (some (y_2.1, (0 : Nat)))) (Out.ite ((fun t => (↑t.5 : Int)) (Tbs.at y_9).snd == (8 : Int)) (Out.ex (Tbs × Nat) fun y_10 => Out.need (TIn y y_10 (some (y_2.1, (0 : Nat)))) (Out.ite ((fun t => (↑t.left : Int)) (Tbs.at y_10).snd == (6 : Int)) (Out.ex (Tbs × Nat) fun y_11 => Out.need (TIn y y_11 (some (y_2.1, (0 : Nat)))) (Out.all (List Ent) fun y => Out.all Nat fun y_12 => Out.asm (AllRow (Tbs.at y_11).snd.get y ∧ y.length = (Tbs.at y_11).snd.len ∧ y.length ≤ (1048576 : Nat)) (Out.fin (.bool ((↑y.length : Int) == (8 : Int))) [] (0 : Nat)))) (Out.fin .ff [] (0 : Nat)))) (Out.fin .ff [] (0 : Nat)))) (Out.fin .ff [] (0 : Nat))) (Out.fin .ff [] (0 : Nat))) (Out.fin .ff [] (0 : Nat))) (Out.fin .ff [] (0 : Nat))) (Out.fin .ff [] (0 : Nat))) (Out.fin .ff [] (0 : Nat))) (Out.fin .ff [] (0 : Nat))) (Out.fin .ff [] (0 : Nat))) (Out.fin .ff [] (0 : Nat))))))))))))))))) := by kernel_rfl

end Sx
end Go.Proofs.Ytkadlfadmjhahaa

/-
  A small case comes out right.
-/
namespace Go.Proofs.Ytkadlfadmjhahaa
namespace Sx
open Go
set_option linter.unusedSimpArgs false
set_option linter.unusedVariables false

theorem hooksL_ok : ∀ g H, hooksL g = some H → HookOk Try.prog g H := by
  intro g H h
  unfold hooksL at h
  split at h
  · cases h; exact hLNew
  · cases h; exact hLPut
  · cases h; exact hLRem
  · cases h; exact hLGet
  · cases h; exact hLLen
  · cases h; exact hLBuck
  · cases h; exact hLLeft
  · cases h; exact hLChain
  · cases h; exact hLAll
  · cases h; exact hSame
  · cases h
theorem cfgL_ok : cfgL.ok := ⟨tab_met, kinds_met, mixed_met, fun g fn h => (by cases h), hooksL_ok⟩
theorem cfgL9_ok : cfgL9.ok := ⟨tab_met, kinds_met, mixed_met, fun g fn h => (by cases h), hooksL_ok⟩

theorem sh3 {t : TM} {a b c : Nat} (h : t.sh = (a, b, c)) : t.B.length = a ∧ t.O.length = b ∧ t.moved = c := by
  unfold TM.sh at h; simp only [Prod.mk.injEq] at h; exact h
theorem body9 (b : Nat) (x : Nat × Pool) (h : JS b x) (Q : EX → St V → Prop) (F : AV → Heap V → Nat → Prop)
    (hnx : ∀ (ST : St V) (p : Pool), x.1 < 9 → JS b (x.1 + 1, p) → Wk 1 [] ST (SI b (x.1 + 1, p)) → Q .nx ST) (hex : ∀ ST : St V, x.1 = 9 → Wk 1 [] ST (SI b x) → Q (.ex 0) ST) :
    (runCode cfgL 60 9 (loopOf Try.f9 0) (SI b x) (stopT (trimSt [1, 2] [0]))).holds ⟨Q, F⟩ := by
  rw [tb9]
  obtain ⟨hle, t, hT, hl, hg, hs⟩ := h
  simp only [Out.holds, decide_eq_true_eq, decide_eq_false_iff_not, beq_iff_eq, beq_eq_false_iff_ne, bne_iff_ne, ne_eq, bne_eq_false_iff_eq, Bool.true_and, Bool.and_true, Bool.not_eq_true', Bool.not_eq_false', Bool.and_eq_true, Bool.or_eq_true, Bool.and_eq_false_imp, true_implies, true_and, Bool.not_true, Bool.not_false, Bool.false_eq_true, Bool.true_eq_false, false_implies, and_true, beq_self_eq_true, Decidable.not_not, not_true_eq_false, not_false_eq_true]
  refine ⟨fun hlt => ?_, fun hge => hex _ (by omega) (by (refine ⟨?_, ?_, rfl, tl_ok rfl, ?_, ⟨Nat.le_of_ble_eq_true rfl, rfl⟩⟩ <;> (repeat' first | with_reducible exact trivial | exact AV.sub_same _ | exact .same _ | exact .inr rfl | exact .inl (in_ok rfl) | exact AV.sub_lit' | exact AV.sub_nilS | exact .none _ _ | exact trivial | refine ⟨?_, ?_⟩)))⟩
  have hlt' : x.1 < 9 := by omega
  have hw : IntKind.wrap .i64 ((x.1 : Int) + 1) = ((x.1 + 1 : Nat) : Int) := wrap_nat (by omega)
  have hw2 : IntKind.wrap .i64 (10 * (x.1 : Int)) = 10 * (x.1 : Int) := wrap_low (by omega) (by omega)
  rw [hw2]
  refine ⟨([(b, t)], 0), ⟨⟨hT, Nat.zero_lt_one, rfl⟩, by show t.len < _; omega⟩, fun p' hp' => ?_⟩
  have hG : t.Good := hT.good (i := 0) Nat.zero_lt_one
  obtain ⟨q1, q2, q3⟩ := put_good hG ⟨(x.1 : Int), 10 * (x.1 : Int), 0, 0⟩
  have hn : t.get (x.1 : Int) = none := by rw [hg, if_neg (by omega)]
  refine hnx _ p' hlt' ⟨hlt', t.put ⟨(x.1 : Int), 10 * (x.1 : Int), 0, 0⟩, hp', ?_, fun k => ?_, ?_⟩ (by (refine ⟨?_, ?_, rfl, tl_ok rfl, ?_, ⟨Nat.le_of_ble_eq_true rfl, rfl⟩⟩ <;> (repeat' first | with_reducible exact trivial | (exact AV.sub_int hw) | exact AV.sub_same _ | exact .same _ | exact .inr rfl | exact .inl (in_ok rfl) | exact AV.sub_lit' | exact AV.sub_nilS | exact .none _ _ | exact trivial | refine ⟨?_, ?_⟩)))
  · rw [q3]; show t.len + (if t.get (x.1 : Int) = none then 1 else 0) = x.1 + 1
    rw [if_pos hn, hl]
  · rw [q2, hg]
    show (if k = (x.1 : Int) then _ else _) = _
    by_cases hk : k = (x.1 : Int)
    · rw [if_pos hk, if_pos (by show 0 ≤ k ∧ k < ((x.1 + 1 : Nat) : Int); omega), hk]
    · rw [if_neg hk]
      by_cases h0 : 0 ≤ k ∧ k < (x.1 : Int)
      · rw [if_pos h0, if_pos (by show 0 ≤ k ∧ k < ((x.1 + 1 : Nat) : Int); omega)]
      · rw [if_neg h0, if_neg (by show ¬ (0 ≤ k ∧ k < ((x.1 + 1 : Nat) : Int)); omega)]
  · rw [put_sh hG]
    show (if (t.get (x.1 : Int)).isSome = true then _ else _) = _
    rw [hn, hl, hs]
    have h8 : x.1 ≤ 8 := by omega
    rw [if_pos h8]
    show shGrow (x.1 + 1) (shMove (8, 0, 0)) = if x.1 + 1 ≤ 8 then (8, 0, 0) else (16, 8, 0)
    have : shMove (8, 0, 0) = (8, 0, 0) := rfl
    rw [this]
    unfold shGrow
    dsimp only
    by_cases h7 : x.1 + 1 ≤ 8
    · rw [if_pos h7, if_neg (by omega)]
    · rw [if_neg h7, if_pos (by omega)]
theorem ls9_ok : LoopOk Try.prog 0 (loopOf Try.f9 0) LS9 := by
  refine trimLoop_ok (trim_ok _ _) (loopTH_ok (C := cfgL) cfgL_ok (f := 9) (n := 60) (trim_ok [1, 2] [0]) 1 (fun p : PSm0 => SI p.b) (fun p x => JS p.b x) (fun p => (0, p.p0)) (fun p x => 9 - x.1) (fun q (p : Pool) => JS q.b (9, p)) (fun q p => SI q.b (9, p)) (fun p => p.h) ?_)
  intro p x h
  refine body9 p.b x h _ _ (fun ST y hlt hy hw => SImp.of_wk (x.1 + 1, y) hw ⟨hy, ?_⟩) (fun ST he hw => ⟨rfl, SImp.of_wk (ren := []) x.2 ?_ ?_⟩)
  · show 9 - (x.1 + 1) < 9 - x.1; omega
  · obtain ⟨i, m⟩ := x; simp only at he; subst he; exact hw
  · obtain ⟨i, m⟩ := x; simp only at he; subst he; exact h

def runSmall : RunFree V := fun ar K => match ar with
  | [] => K .tt []
  | _ => .bad 500
theorem new_js (b : Nat) (p : Pool) (s : Int) (h : TT p [(b, TM.new s)]) : JS b (0, p) :=
  ⟨Nat.zero_le _, TM.new s, h, rfl, fun k => by rw [(new_good s).2, if_neg (by show ¬ (0 ≤ k ∧ k < ((0 : Nat) : Int)); omega)], rfl⟩
theorem small_holds : (runL cfgL9 60 9 Try.f9 [] [(0, .pool Pool.nil)] 1).holds ⟨fun _ _ => False, fun v _ _ => v.sub .tt⟩ := by
  rw [t9]
  refine ⟨[], TT.nil, ?_⟩
  rintro ⟨p0, b⟩ h0
  simp only [Out.holds, decide_eq_true_eq, decide_eq_false_iff_not, beq_iff_eq, beq_eq_false_iff_ne, bne_iff_ne, ne_eq, bne_eq_false_iff_eq, Bool.true_and, Bool.and_true, Bool.not_eq_true', Bool.not_eq_false', Bool.and_eq_true, Bool.or_eq_true, Bool.and_eq_false_imp, true_implies, true_and, Bool.not_true, Bool.not_false, Bool.false_eq_true, Bool.true_eq_false, false_implies, and_true, beq_self_eq_true, Decidable.not_not, not_true_eq_false, not_false_eq_true]
  refine ⟨fun hh => by simp at hh, fun _ => ⟨ls9_ok, fun q => q = ⟨b, p0, new_js b p0 1 h0⟩, ⟨Nat.le_refl _, SImp.of_wk (ren := []) ⟨b, p0, new_js b p0 1 h0⟩ (by (refine ⟨?_, ?_, rfl, tl_ok rfl, ?_, ⟨Nat.le_of_ble_eq_true rfl, rfl⟩⟩ <;> (repeat' first | with_reducible exact trivial | exact AV.sub_same _ | exact .same _ | exact .inr rfl | exact .inl (in_ok rfl) | exact AV.sub_lit' | exact AV.sub_nilS | exact .none _ _ | exact trivial | refine ⟨?_, ?_⟩))) rfl⟩, ?_⟩⟩
  rintro _ rfl p1 ⟨_, t, hT, hl, hg, hs⟩
  dsimp only at hT hl hg hs ⊢
  have hG : t.Good := hT.good (i := 0) Nat.zero_lt_one
  have hs : t.sh = (16, 8, 0) := hs
  obtain ⟨a1, a2, a3⟩ := sh3 hs
  have g3 : t.get 3 = some ⟨3, 30, 0, 0⟩ := by rw [hg]; rfl
  have g4 : t.get 4 = some ⟨4, 40, 0, 0⟩ := by rw [hg]; rfl
  refine ⟨([(b, t)], 0), ⟨hT, Nat.zero_lt_one, rfl⟩, ([(b, t)], 0), ⟨hT, Nat.zero_lt_one, rfl⟩, ([(b, t)], 0), ⟨⟨hT, Nat.zero_lt_one, rfl⟩, by show t.len < _; omega⟩, fun p2 hT2 => ?_⟩
  have hT2 : TT p2 [(b, t.put ⟨3, 1, 0, 0⟩)] := hT2
  obtain ⟨q1, q2, q3⟩ := put_good hG ⟨3, 1, 0, 0⟩
  have l2 : (t.put ⟨3, 1, 0, 0⟩).len = 9 := by
    rw [q3, if_neg (by show ¬ t.get 3 = none; rw [g3]; simp), hl]
  have s2 : (t.put ⟨3, 1, 0, 0⟩).sh = (16, 8, 1) := by
    rw [put_sh hG, if_pos (by show (t.get 3).isSome = true; rw [g3]; rfl), hs]; rfl
  have k3 : (t.put ⟨3, 1, 0, 0⟩).get 3 = some ⟨3, 1, 0, 0⟩ := by rw [q2]; rfl
  have k4 : (t.put ⟨3, 1, 0, 0⟩).get 4 = some ⟨4, 40, 0, 0⟩ := by rw [q2, if_neg (by show ¬ (4 : Int) = 3; decide)]; exact g4
  generalize t.put ⟨3, 1, 0, 0⟩ = t2 at *
  refine ⟨([(b, t2)], 0), ⟨hT2, Nat.zero_lt_one, rfl⟩, ([(b, t2)], 0), ⟨hT2, Nat.zero_lt_one, rfl⟩, fun p3 hT3 => ?_⟩
  have hT3 : TT p3 [(b, t2.remove 4)] := hT3
  obtain ⟨r1, r2, r3, _⟩ := remove_good q1 4
  have l3 : (t2.remove 4).len = 8 := by rw [r3, k4, l2]; rfl
  have s3 : (t2.remove 4).sh = (16, 8, 2) := by rw [rem_sh q1, s2]; rfl
  have m4 : (t2.remove 4).get 4 = none := by rw [r2]; rfl
  generalize t2.remove 4 = t3 at *
  obtain ⟨b1, b2, b3⟩ := sh3 s3
  have e1 : ((Tbs.at ([(b, t)], 0)).2.B.length : Int) = 16 := by show (t.B.length : Int) = 16; omega
  have e2 : ((Tbs.at ([(b, t)], 0)).2.left : Int) = 8 := by show ((t.O.length - t.moved : Nat) : Int) = 8; omega
  have e3 : ((Tbs.at ([(b, t3)], 0)).2.len : Int) = 8 := by show (t3.len : Int) = 8; omega
  have e4 : ((Tbs.at ([(b, t3)], 0)).2.left : Int) = 6 := by show ((t3.O.length - t3.moved : Nat) : Int) = 6; omega
  have f3 : (Tbs.at ([(b, t)], 0)).2.get 3 = some ⟨3, 30, 0, 0⟩ := g3
  have f4 : (Tbs.at ([(b, t2)], 0)).2.get 3 = some ⟨3, 1, 0, 0⟩ := k3
  have f5 : (Tbs.at ([(b, t2)], 0)).2.get 4 = some ⟨4, 40, 0, 0⟩ := k4
  have f6 : (Tbs.at ([(b, t3)], 0)).2.get 4 = none := m4
  refine ⟨([(b, t3)], 0), ⟨hT3, Nat.zero_lt_one, rfl⟩, ?_⟩
  simp only [e1, e2, f3, f4, f5, f6, Option.getD_some, Option.isSome_some, Option.isSome_none, Out.holds, decide_eq_true_eq, decide_eq_false_iff_not, beq_iff_eq, beq_eq_false_iff_ne, bne_iff_ne, ne_eq, bne_eq_false_iff_eq, Bool.true_and, Bool.and_true, Bool.not_eq_true', Bool.not_eq_false', Bool.and_eq_true, Bool.or_eq_true, Bool.and_eq_false_imp, true_implies, true_and, Bool.not_true, Bool.not_false, Bool.false_eq_true, Bool.true_eq_false, false_implies, and_true, beq_self_eq_true, Decidable.not_not, not_true_eq_false, not_false_eq_true]
  refine ⟨([(b, t3)], 0), ⟨hT3, Nat.zero_lt_one, rfl⟩, fun _ => ⟨([(b, t3)], 0), ⟨hT3, Nat.zero_lt_one, rfl⟩, fun _ => ⟨([(b, t3)], 0), ⟨hT3, Nat.zero_lt_one, rfl⟩, fun ys sp hys => ?_⟩, fun hh => absurd e4 hh⟩, fun hh => absurd e3 hh⟩
  have hyl : ((ys.length : Nat) : Int) = 8 := by rw [hys.2.1]; exact e3
  rw [hyl]; exact AV.sub_same _
theorem hSmall : HookOk Try.prog 9 (hookFree [] runSmall) := by
  refine hookFree_ok ⟨Try.f9, by kernel_rfl, by kernel_rfl, by kernel_rfl⟩ ?_
  intro M ar K0 h
  unfold runSmall at h
  split at h
  · refine ⟨?_, ?_⟩
    · exact ⟨Try.f9, by kernel_rfl, by kernel_rfl, by kernel_rfl⟩
    · intro β r vs w hr hs hf
      refine (((calls_runL cfgL9_ok (n := 60) (g := 9) (fn := Try.f9) ⟨by kernel_rfl, by kernel_rfl⟩ (by kernel_rfl) (by decide +kernel) small_holds).nilPool (nx := 0) rfl (by decide)).2 β r vs w hr hs hf).mono ?_
      rintro e w' ⟨v, h', nx', T, z, r', rfl, h1, h2, h3, h4, h5, h6⟩
      exact ⟨v, h', nx', T, z, r', rfl, ⟨_, _, h, endPlain h1 rfl⟩, h2, h3, h4, h5, h6⟩
  · exact h.elim

end Sx
end Go.Proofs.Ytkadlfadmjhahaa

/-
  The laws: the runs of the machine.
-/
namespace Go.Proofs.Ytkadlfadmjhahaa
namespace Sx
open Go
set_option maxRecDepth 100000
set_option linter.unusedVariables false

noncomputable def hooksW : Nat → Option (HookS V) := fun g => match g with | 9 => some (hookFree [] runSmall) | g => hooksL g
noncomputable def cfgW : Cfg Try.prog V := ⟨tab, kinds, fun _ => none, hooksW, fun _ _ => none⟩
structure P4 where
  l : List Three
  c : Nat
  b : Nat
  hl : l.length ≤ 300
def GI (q : P4) (x : Nat × Pool) : St V := ⟨[(1, .sl false 0 0 3 q.l.length q.c), (5, .tt), (6, .rp (some (q.b, 0))), (7, .int .i64 (x.1 : Int))], [(1, .pool x.2), (0, .ro Kd.three q.l)], 2, 107, TQ⟩
structure J4 (q : P4) (x : Nat × Pool) : Prop where
  le : x.1 ≤ q.l.length
  ex : ∃ t : TM, TT x.2 [(q.b, t)] ∧ t.len ≤ x.1 ∧ 8 ≤ t.B.length
structure P4s where
  q : P4
  p0 : Pool
  h : J4 q (0, p0)
def LG4 : LoopS V := trimLoop (trimSt [1, 5, 6, 7] [0, 1]) (loopH 2 (fun q : P4s => GI q.q (0, q.p0)) (fun q (p : Pool) => J4 q.q (q.q.l.length, p)) (fun q p => GI q.q (q.q.l.length, p)))
noncomputable def cfgW4 : Cfg Try.prog V := ⟨tab, kinds, fun _ => none, hooksW, fun f id => match f, id with | 4, 0 => some LG4 | _, _ => none⟩
structure P5 where
  l : List Three
  c : Nat
  b : Nat
  d : Nat
  hl : l.length ≤ 200
def DI (q : P5) (x : Nat × Pool) : St V := ⟨[(2, .sl false 0 0 3 q.l.length q.c), (7, .tt), (8, .rp (some (q.b, 0))), (9, .rp (some (q.d, 0))), (10, .int .i64 (x.1 : Int))], [(1, .pool x.2), (0, .ro Kd.three q.l)], 2, 147, TQ⟩
structure J5 (q : P5) (x : Nat × Pool) : Prop where
  le : x.1 ≤ q.l.length
  ex : ∃ t u : TM, TT x.2 [(q.b, t), (q.d, u)] ∧ t.len ≤ x.1 ∧ t.len = u.len ∧ t.sh = u.sh ∧ ∀ k, t.get k = u.get k
structure P5s where
  q : P5
  p0 : Pool
  h : J5 q (0, p0)
def LD5 : LoopS V := trimLoop (trimSt [2, 7, 8, 9, 10] [0, 1]) (loopH 2 (fun q : P5s => DI q.q (0, q.p0)) (fun q (p : Pool) => J5 q.q (q.q.l.length, p)) (fun q p => DI q.q (q.q.l.length, p)))
noncomputable def cfgW5 : Cfg Try.prog V := ⟨tab, kinds, fun _ => none, hooksW, fun f id => match f, id with | 5, 0 => some LD5 | _, _ => none⟩
theorem t4 (s : Int) (l : List Three) (c : Nat) : runL cfgW4 60 4 Try.f4 [.int .i64 s, .sl false 0 0 3 l.length c] [(1, .pool Pool.nil), (0, .ro Kd.three l)] 2 = Out.ex Tbs fun y => Out.need (TT Pool.nil y) (Out.all (Pool × Nat) fun y_1 => Out.asm (TT y_1.fst (y ++ [(y_1.2, TM.new s)])) (Out.ite (some (y_1.2, (0 : Nat))).isNone (Out.fin (.bool !(some (y_1.2, (0 : Nat))).isNone) [] (0 : Nat)) (Out.ite (decide ((↑l.length : Int) > (300 : Int))) (Out.fin (.bool !(some (y_1.2, (0 : Nat))).isNone) [] (0 : Nat)) (Out.need (LoopFor Try.prog (4 : Nat) (0 : Nat) (loopOf Try.f4 (0 : Nat)) LG4) (Out.ex (P4s → Prop) fun y => Out.need ((2 : Nat) ≤ (2 : Nat) ∧ SImp (2 : Nat) {env := [((1 : Nat), .sl false (0 : Nat) (0 : Nat) (3 : Nat) l.length c), ((5 : Nat), .tt), ((6 : Nat), AV.rp (some (y_1.2, (0 : Nat)))), ((7 : Nat), .lit .i64 (0 : Int))], heap := [((1 : Nat), Blk.pool y_1.fst), ((0 : Nat), .ro Kd.three l)], nx := (2 : Nat), nt := (107 : Nat), tl := [(1 : Nat)] : St V } (fun q => GI q.q ((0 : Nat), q.p0)) y) (Out.all P4s fun y_2 => Out.asm (y y_2) (Out.all Pool fun y => Out.asm ((fun q p => J4 q.q (q.q.l.length, p)) y_2 y) (Out.ex (Tbs × Nat) fun y_3 => Out.need (TIn (y_2.q.l.length, y).snd y_3 (some (y_2.q.3, (0 : Nat)))) (Out.fin (.bool (decide ((fun t => (↑t.B.length : Int)) (Tbs.at y_3).snd ≥ (8 : Int)))) [] (0 : Nat)))))))))) := by kernel_rfl

theorem t5 (s s2 : Int) (l : List Three) (c : Nat) : runL cfgW5 60 5 Try.f5 [.int .i64 s, .int .i64 s2, .sl false 0 0 3 l.length c] [(1, .pool Pool.nil), (0, .ro Kd.three l)] 2 = Out.ex Tbs fun y => Out.need (TT Pool.nil y) (Out.all (Pool × Nat) fun y_1 => Out.asm (TT y_1.fst (y ++ [(y_1.2, TM.new s)])) (Out.ex Tbs fun y => Out.need (TT y_1.fst y) (Out.all (Pool × Nat) fun y_2 => Out.asm (TT y_2.fst (y ++ [(y_2.2, TM.new s2)])) (Out.ite (some (y_1.2, (0 : Nat))).isNone (Out.ite (!(some (y_1.2, (0 : Nat))).isNone) (Out.fin (.bool !(some (y_2.2, (0 : Nat))).isNone) [] (0 : Nat)) (Out.fin .ff [] (0 : Nat))) (Out.ite (some (y_2.2, (0 : Nat))).isNone (Out.ite (!(some (y_1.2, (0 : Nat))).isNone) (Out.fin (.bool !(some (y_2.2, (0 : Nat))).isNone) [] (0 : Nat)) (Out.fin .ff [] (0 : Nat))) (Out.ite (decide ((↑l.length : Int) > (200 : Int))) (Out.ite (!(some (y_1.2, (0 : Nat))).isNone) (Out.fin (.bool !(some (y_2.2, (0 : Nat))).isNone) [] (0 : Nat)) (Out.fin .ff [] (0 : Nat))) (Out.need (LoopFor Try.prog (5 : Nat) (0 : Nat) (loopOf Try.f5 (0 : Nat)) LD5) (Out.ex (P5s → Prop) fun y => Out.need ((2 : Nat) ≤ (2 : Nat) ∧ SImp (2 : Nat) {env := [((2 : Nat), .sl false (0 : Nat) (0 : Nat) (3 : Nat) l.length c), ((7 : Nat), .tt), ((8 : Nat), AV.rp (some (y_1.2, (0 : Nat)))), ((9 : Nat), AV.rp (some (y_2.2, (0 : Nat)))), ((10 : Nat), .lit .i64 (0 : Int))], heap := [((1 : Nat), Blk.pool y_2.fst), ((0 : Nat), .ro Kd.three l)], nx := (2 : Nat), nt := (147 : Nat), tl := [(1 : Nat), (1 : Nat)] : St V } (fun q => DI q.q ((0 : Nat), q.p0)) y) (Out.all P5s fun y_3 => Out.asm (y y_3) (Out.all Pool fun y => Out.asm ((fun q p => J5 q.q (q.q.l.length, p)) y_3 y) (Out.ex (Tbs × Nat) fun y_4 => Out.need (TIn (y_3.q.l.length, y).snd y_4 (some (y_3.q.3, (0 : Nat)))) (Out.all (List Ent) fun y_5 => Out.all Nat fun y_6 => Out.asm (AllRow (Tbs.at y_4).snd.get y_5 ∧ y_5.length = (Tbs.at y_4).snd.len ∧ y_5.length ≤ (1048576 : Nat)) (Out.ex (Tbs × Nat) fun y_7 => Out.need (TIn (y_3.q.l.length, y).snd y_7 (some (y_3.q.4, (0 : Nat)))) (Out.all (List Ent) fun y_8 => Out.all Nat fun y_9 => Out.asm (AllRow (Tbs.at y_7).snd.get y_8 ∧ y_8.length = (Tbs.at y_7).snd.len ∧ y_8.length ≤ (1048576 : Nat)) (Out.need ((0 : Nat) + y_5.length ≤ y_5.length) (Out.need ((0 : Nat) + y_8.length ≤ y_8.length) (Out.need ((List.take y_5.length (List.drop (0 : Nat) y_5)).length ≤ (1099511627776 : Nat)) (Out.ite (decide (List.take y_5.length (List.drop (0 : Nat) y_5) = List.take y_8.length (List.drop (0 : Nat) y_8))) (Out.ex (Tbs × Nat) fun y_10 => Out.need (TIn (y_3.q.l.length, y).snd y_10 (some (y_3.q.3, (0 : Nat)))) (Out.ex (Tbs × Nat) fun y_11 => Out.need (TIn (y_3.q.l.length, y).snd y_11 (some (y_3.q.4, (0 : Nat)))) (Out.ite ((fun t => (↑t.B.length : Int)) (Tbs.at y_10).snd == (fun t => (↑t.B.length : Int)) (Tbs.at y_11).snd) (Out.ex (Tbs × Nat) fun y_12 => Out.need (TIn (y_3.q.l.length, y).snd y_12 (some (y_3.q.3, (0 : Nat)))) (Out.ex (Tbs × Nat) fun y_13 => Out.need (TIn (y_3.q.l.length, y).snd y_13 (some (y_3.q.4, (0 : Nat)))) (Out.fin (.bool ((fun t => (↑t.left : Int)) (Tbs.at y_12).snd == (fun t => (↑t.left : Int)) (Tbs.at y_13).snd)) [] (0 : Nat)))) (Out.fin .ff [] (0 : Nat))))) (Out.fin .ff [] (0 : Nat)))))))))))))))))))) := by kernel_rfl

end Sx
end Go.Proofs.Ytkadlfadmjhahaa

/-
  Old buckets go down by one, and when a table grows: the law.
-/
namespace Go.Proofs.Ytkadlfadmjhahaa
namespace Sx
open Go
set_option linter.unusedSimpArgs false
set_option linter.unusedVariables false

theorem hooksW_ok : ∀ g H, hooksW g = some H → HookOk Try.prog g H := by
  intro g H h
  unfold hooksW at h
  split at h
  · cases h; exact hSmall
  · exact hooksL_ok _ _ h
theorem sh_left {t : TM} {s : Shp} (h : t.sh = s) : t.B.length = s.1 ∧ t.left = s.2.1 - s.2.2 := by
  obtain ⟨a, b, c⟩ := s
  obtain ⟨h1, h2, h3⟩ := sh3 h
  unfold TM.left; rw [h1, h2, h3]; exact ⟨rfl, rfl⟩
theorem TM.none_left {t : TM} (h : t.Good) (hl : t.O.length ≤ t.moved) : t.O.length = 0 ∧ t.moved = 0 := by
  have := h.tight hl
  have hm := h.core.mv
  rw [this] at hm ⊢
  simp at hm ⊢; exact hm
theorem shMove_facts {t : TM} (h : t.Good) : (shMove t.sh).1 = t.B.length ∧ (shMove t.sh).2.1 - (shMove t.sh).2.2 = t.left - 1 ∧ ((shMove t.sh).2.1 ≤ (shMove t.sh).2.2 → (shMove t.sh).2.2 = 0 ∧ t.left ≤ 1) := by
  have hm := h.core.mv
  have ht := fun hh => TM.none_left h hh
  unfold shMove TM.sh TM.left
  dsimp only
  split
  · rename_i hh
    obtain ⟨a, b⟩ := ht hh
    exact ⟨rfl, by show t.O.length - t.moved = t.O.length - t.moved - 1; omega, fun _ => ⟨b, by omega⟩⟩
  · split
    · rename_i h1 h2
      have h1 : ¬ t.O.length ≤ t.moved := h1
      have h2 : t.O.length ≤ t.moved + 1 := h2
      exact ⟨rfl, by show 0 - 0 = t.O.length - t.moved - 1; omega, fun _ => ⟨rfl, by omega⟩⟩
    · rename_i h1 h2
      have h2 : ¬ t.O.length ≤ t.moved + 1 := h2
      exact ⟨rfl, by show t.O.length - (t.moved + 1) = t.O.length - t.moved - 1; omega, fun hh => by have hh : t.O.length ≤ t.moved + 1 := hh; omega⟩
theorem rem_facts {t : TM} (h : t.Good) (k : Int) : (t.remove k).B.length = t.B.length ∧ (t.remove k).left = t.left - 1 ∧ (t.remove k).len ≤ t.len := by
  obtain ⟨a, b⟩ := sh_left (rem_sh h k)
  obtain ⟨c, d, _⟩ := shMove_facts h
  have := (remove_good h k).2.2.1
  exact ⟨a.trans c, b.trans d, by omega⟩
end Sx
end Go.Proofs.Ytkadlfadmjhahaa

/-
  What a table holds does not hang on its seed: the law.
-/
namespace Go.Proofs.Ytkadlfadmjhahaa
namespace Sx
open Go
set_option linter.unusedSimpArgs false
set_option linter.unusedVariables false

end Sx
end Go.Proofs.Ytkadlfadmjhahaa

/-
  Keys in the chains of their places: the runs of the machine.
-/
namespace Go.Proofs.Ytkadlfadmjhahaa
namespace Sx
open Go
set_option maxRecDepth 100000
set_option linter.unusedVariables false

noncomputable def hooksV : Nat → Option (HookS V) := fun g => match g with | 30 => some (hookFree [.int .i64, .int .i64] runMix) | 29 => some (hookFree [.int .u64, .int .i64, .int .i64] runIndex) | g => hooksW g
noncomputable def cfgV : Cfg Try.prog V := ⟨tab, kinds, fun _ => none, hooksV, fun _ _ => none⟩
structure P7 where
  s : Int
  l : List Int
  c : Nat
  b : Nat
  hl : l.length ≤ 150
def K0 (q : P7) (x : Nat × Pool) : St V := ⟨[(0, .int .i64 q.s), (1, .sl false 0 0 1 q.l.length q.c), (5, .tt), (6, .rp (some (q.b, 0))), (7, .int .i64 (x.1 : Int))], [(1, .pool x.2), (0, .ro Kd.int q.l)], 2, 109, TQ⟩
structure JK0 (q : P7) (x : Nat × Pool) : Prop where
  le : x.1 ≤ q.l.length
  ex : ∃ t : TM, TT x.2 [(q.b, t)] ∧ t.seed = q.s ∧ t.len ≤ x.1 ∧ t.O.length ≤ 150
structure P7s where
  q : P7
  p0 : Pool
  h : JK0 q (0, p0)
def LK0 : LoopS V := trimLoop (trimSt [0, 1, 5, 6, 7] [0, 1]) (loopH 2 (fun q : P7s => K0 q.q (0, q.p0)) (fun q (p : Pool) => JK0 q.q (q.q.l.length, p)) (fun q p => K0 q.q (q.q.l.length, p)))
def K2 (q : P7) (x : Nat × Pool) : St V := ⟨[(0, .int .i64 q.s), (5, .tt), (6, .rp (some (q.b, 0))), (8, .int .i64 (x.1 : Int))], [(1, .pool x.2)], 2, 109, TQ⟩
structure JK2 (q : P7) (x : Nat × Pool) : Prop where
  le : x.1 ≤ 2000
  ex : ∃ t : TM, TT x.2 [(q.b, t)] ∧ t.seed = q.s ∧ t.left + x.1 ≤ 150 + (x.1 - 150)
structure P72 where
  q : P7
  p0 : Pool
  h : JK2 q (0, p0)
def LK2 : LoopS V := trimLoop (trimSt [0, 5, 6, 8] [1]) (loopH 2 (fun q : P72 => K2 q.q (0, q.p0)) (fun q (p : Nat × Pool) => ∃ t : TM, TT p.2 [(q.q.b, t)] ∧ t.seed = q.q.s ∧ t.left = 0) (fun q p => K2 q.q p))
structure P74 where
  s : Int
  b : Nat
  t : TM
  p : Pool
  hT : TT p [(b, t)]
  hs : t.seed = s
  hl : t.left = 0
def K4 (q : P74) (x : Nat × Nat) : St V := ⟨[(0, .int .i64 q.s), (5, .tt), (6, .rp (some (q.b, 0))), (9, .int .i64 (x.2 : Int)), (10, .int .i64 (x.1 : Int))], [(1, .pool q.p)], 2, 109, TQ⟩
structure P76 where
  q : P74
  bb : Nat
  n : Nat
  sp : Nat
  hb : bb < q.t.B.length
abbrev P76.ks (q : P76) : List Int := q.q.t.chainKeys (q.bb : Int)
def K6 (q : P76) (k : Nat) : St V := ⟨[(0, .int .i64 q.q.s), (5, .tt), (6, .rp (some (q.q.b, 0))), (9, .int .i64 (q.n : Int)), (10, .int .i64 (q.bb : Int)), (11, .sl false 2 0 1 q.ks.length (q.ks.length + q.sp)), (12, .int .i64 (k : Int))], [(2, .arr 3 Kd.int q.ks q.sp), (1, .pool q.q.p)], 4, 109, TQ⟩
def LK6 : LoopS V := trimLoop (trimSt [0, 5, 6, 9, 10, 11, 12] [1, 2]) (loopH 4 (fun q : P76 => K6 q 0) (fun q (_ : Unit) => True) (fun q _ => K6 q q.ks.length))
noncomputable def cfgV6 : Cfg Try.prog V := ⟨tab, kinds, fun _ => none, hooksV, fun f id => match f, id with | 7, 6 => some LK6 | _, _ => none⟩
structure JK4 (q : P74) (x : Nat × Nat) : Prop where
  le : x.1 ≤ q.t.B.length
  n : x.2 = ((q.t.B.take x.1).map List.length).sum
def LK4 : LoopS V := trimLoop (trimSt [0, 5, 6, 9, 10] [1]) (loopH 2 (fun q : P74 => K4 q (0, 0)) (fun q (_ : Unit) => True) (fun q _ => K4 q (q.t.B.length, (q.t.B.map List.length).sum)))
noncomputable def cfgV7 : Cfg Try.prog V := ⟨tab, kinds, fun _ => none, hooksV, fun f id => match f, id with | 7, 0 => some LK0 | 7, 2 => some LK2 | 7, 4 => some LK4 | _, _ => none⟩
end Sx
end Go.Proofs.Ytkadlfadmjhahaa

/-
  When no old buckets are left each key is in the chain of its place: the law.
-/
namespace Go.Proofs.Ytkadlfadmjhahaa
namespace Sx
open Go
set_option linter.unusedSimpArgs false
set_option linter.unusedVariables false

theorem put_old {t : TM} (h : t.Good) (e : Ent) (n : Nat) (h1 : t.O.length ≤ n) (h2 : t.len ≤ n) : (t.put e).O.length ≤ n := by
  have hs := put_sh h e
  have hm : (shMove t.sh).2.1 ≤ n ∧ (shMove t.sh).1 = t.B.length := by
    refine ⟨?_, (shMove_facts h).1⟩
    unfold shMove TM.sh
    dsimp only
    split
    · exact h1
    · split
      · exact Nat.zero_le _
      · exact h1
  have e1 : (t.put e).O.length = (t.put e).sh.2.1 := rfl
  rw [e1, hs]
  split
  · exact hm.1
  · unfold shGrow
    split
    · rename_i hc; dsimp only; omega
    · exact hm.1

/-! ## each key in the chain of its place -/
theorem P74.oempty (q : P74) : q.t.O = [] ∧ q.t.moved = 0 := by
  have hG : q.t.Good := q.hT.good (i := 0) Nat.zero_lt_one
  have hl := q.hl
  unfold TM.left at hl
  have := TM.none_left hG (by omega)
  exact ⟨List.eq_nil_of_length_eq_zero this.1, this.2⟩
theorem P76.in_ (q : P76) : q.ks = (q.q.t.B.getD q.bb []).map (·.key) := by
  unfold P76.ks TM.chainKeys
  have := q.hb
  rw [if_pos ⟨by omega, by omega⟩, Int.toNat_natCast]
theorem P76.place (q : P76) {k : Nat} (hk : k < q.ks.length) : (q.q.t.get (q.ks.getD k 0)).isSome = true ∧ idxF (mixF q.q.s (q.ks.getD k 0)) 0 (q.q.t.B.length : Int) = (q.bb : Int) := by
  have hG : q.q.t.Good := q.q.hT.good (i := 0) Nat.zero_lt_one
  obtain ⟨o1, o2⟩ := q.q.oempty
  rw [q.in_] at hk ⊢
  rw [List.length_map] at hk
  have hg : ((q.q.t.B.getD q.bb []).map (·.key)).getD k 0 = ((q.q.t.B.getD q.bb [])[k]).key := by
    rw [List.getD_eq_getElem?_getD, List.getElem?_map, List.getElem?_eq_getElem hk]; rfl
  rw [hg]
  have hm : (q.q.t.B.getD q.bb [])[k] ∈ q.q.t.row (false, q.bb) := List.getElem_mem hk
  have hlv : q.q.t.live (false, q.bb) := q.hb
  have h1 := TM.get_mem hG.core hlv hm
  have h2 := hG.core.home _ hlv _ hm
  refine ⟨by rw [h1]; rfl, ?_⟩
  unfold TM.pl at h2
  have hin : q.q.t.inOld ((q.q.t.B.getD q.bb [])[k]).key = false := by unfold TM.inOld; rw [o1]; simp
  rw [hin] at h2
  have h2 : idxN q.q.t.seed ((q.q.t.B.getD q.bb [])[k]).key q.q.t.B.length = q.bb := congrArg Prod.snd h2
  have h3 := idxN_cast (seed := q.q.t.seed) (key := ((q.q.t.B.getD q.bb [])[k]).key) hG.core.b1 (by have := hG.core.b2; omega)
  rw [h2, q.q.hs] at h3
  exact h3.symm
end Sx
end Go.Proofs.Ytkadlfadmjhahaa

/-
  A chain, and none: the runs of the machine.
-/
namespace Go.Proofs.Ytkadlfadmjhahaa
namespace Sx
open Go
set_option maxRecDepth 100000
set_option linter.unusedVariables false

structure PC0 where
  p : Pool
  x : Option (Nat × Nat)
  hx : x = none
def CI0 (p : Pool) (x : Option (Nat × Nat)) : St V := ⟨[(5, .nilS), (6, .rp x)], [(0, .pool p)], 4, 40, TQ⟩
def CL0 : LoopS V := trimLoop (trimSt [5, 6] [0]) (loopH 3 (fun p : PC0 => CI0 p.p p.x) (fun _ (_ : Unit) => True) (fun p _ => CI0 p.p p.x))
noncomputable def cfgL2 : Cfg Try.prog V := ⟨tab, kinds, fun _ => none, fun _ => none, fun f id => match f, id with | 26, 0 => some (orLoop CL0 CL) | _, _ => none⟩
theorem tbch0 (p : Pool) (x : Option (Nat × Nat)) : runCode cfgL0 60 26 (loopOf Try.f26 0) (CI0 p x) (stopT (trimSt [5, 6] [0])) = Out.ite (!x.isNone) (Out.need (x.isSome = true) (Out.need (x.isSome = true) (Out.need ((shiftA x (0 : Nat)).isSome = true) (Out.ex Int fun y => Out.need (p.at (shiftA (shiftA x (0 : Nat)) (0 : Nat)) [PD.int .i64 y]) (Out.need ((8 : Nat) ≤ (140737488355328 : Nat)) (Out.all Nat fun y => Out.need (x.isSome = true) (Out.need (x.isSome = true) (Out.ex (Option (Nat × Nat)) fun y_1 => Out.need (p.at (shiftA x (4 : Nat)) [PD.ptr y_1]) (Out.stop EX.nx {env := [((5 : Nat), .sl false (5 : Nat) (0 : Nat) (1 : Nat) (1 : Nat) ((1 : Nat) + y)), ((6 : Nat), AV.rp y_1)], heap := [((0 : Nat), Blk.pool p)], nx := (6 : Nat), nt := (40 : Nat), tl := [(5 : Nat), (4 : Nat), (0 : Nat), (1 : Nat), (2 : Nat), (3 : Nat), (4 : Nat), (5 : Nat), (6 : Nat), (7 : Nat), (8 : Nat), (9 : Nat), (10 : Nat), (11 : Nat), (12 : Nat), (13 : Nat), (14 : Nat), (15 : Nat), (16 : Nat)] : St V }))))))))) (Out.stop (EX.ex (0 : Nat)) {env := [((5 : Nat), .nilS), ((6 : Nat), AV.rp x)], heap := [((0 : Nat), Blk.pool p)], nx := (4 : Nat), nt := (40 : Nat), tl := [(0 : Nat), (1 : Nat), (2 : Nat), (3 : Nat), (4 : Nat), (5 : Nat), (6 : Nat), (7 : Nat), (8 : Nat), (9 : Nat), (10 : Nat), (11 : Nat), (12 : Nat), (13 : Nat), (14 : Nat), (15 : Nat), (16 : Nat)] : St V }) := by kernel_rfl

theorem tchain2 (p : Pool) (b : Nat) (k : Int) : runF cfgL2 60 26 Try.f26 [.rp (some (b, 0)), .int .i64 k] [(0, .pool p)] 3 = Out.ite (decide (k < (0 : Int))) (Out.fin .nilS [((0 : Nat), Blk.pool p)] (3 : Nat)) (Out.need ((some (b, (0 : Nat))).isSome = true) (Out.need ((some (b, (0 : Nat))).isSome = true) (Out.ex (Option (Nat × Nat)) fun y => Out.ex Nat fun y_1 => Out.ex Nat fun y_2 => Out.need (p.at (shiftA (some (b, (0 : Nat))) (1 : Nat)) [PD.sl y y_1 y_2]) (Out.ite (decide (k ≥ (↑y_1 : Int))) (Out.fin .nilS [((0 : Nat), Blk.pool p)] (3 : Nat)) (Out.need ((some (b, (0 : Nat))).isSome = true) (Out.need ((some (b, (0 : Nat))).isSome = true) (Out.ex (Option (Nat × Nat)) fun y => Out.ex Nat fun y_3 => Out.ex Nat fun y_4 => Out.need (p.at (shiftA (some (b, (0 : Nat))) (1 : Nat)) [PD.sl y y_3 y_4]) (Out.need ((0 : Int) ≤ k ∧ k < (↑y_3 : Int) ∧ y.isSome = true) (Out.ex (Option (Nat × Nat)) fun y_5 => Out.need (p.at (shiftA y (k.toNat * (1 : Nat))) [PD.ptr y_5]) (Out.need (LoopFor Try.prog (26 : Nat) (0 : Nat) (loopOf Try.f26 (0 : Nat)) (orLoop CL0 CL)) (Out.ex Bool fun y => Out.ite y (Out.ex (PC0 → Prop) fun y => Out.need ((3 : Nat) ≤ (3 : Nat) ∧ SImp (3 : Nat) {env := [((5 : Nat), .nilS), ((6 : Nat), AV.rp y_5)], heap := [((0 : Nat), Blk.pool p)], nx := (3 : Nat), nt := (40 : Nat), tl := [] : St V } (fun p => CI0 p.p p.x) y) (Out.all PC0 fun y_6 => Out.asm (y y_6) (Out.all Unit fun y => Out.asm ((fun x x_1 => True) y_6 y) (Out.fin .nilS [((0 : Nat), Blk.pool y_6.p)] (4 : Nat))))) (Out.ex (PCh → Prop) fun y => Out.need ((3 : Nat) ≤ (3 : Nat) ∧ SImp (3 : Nat) {env := [((5 : Nat), .nilS), ((6 : Nat), AV.rp y_5)], heap := [((0 : Nat), Blk.pool p)], nx := (3 : Nat), nt := (40 : Nat), tl := [] : St V } (fun p => CI p.p {x := p.x0, ys := [], sp := (0 : Nat) : XCh }) y) (Out.all PCh fun y_6 => Out.asm (y y_6) (Out.all Nat fun y => Out.asm ((fun p x => True) y_6 y) (Out.fin (.sl false (3 : Nat) (0 : Nat) (1 : Nat) {x := none, ys := keysOf y_6.ch, sp := y : XCh }.ys.length ({x := none, ys := keysOf y_6.ch, sp := y : XCh }.ys.length + y)) [((3 : Nat), .arr (3 : Nat) Kd.int {x := none, ys := keysOf y_6.ch, sp := y : XCh }.ys y), ((0 : Nat), Blk.pool y_6.p)] (4 : Nat)))))))))))))))) := by kernel_rfl

end Sx
end Go.Proofs.Ytkadlfadmjhahaa

/-
  A table's chain, and none where there is none.
-/
namespace Go.Proofs.Ytkadlfadmjhahaa
namespace Sx
open Go
set_option linter.unusedSimpArgs false
set_option linter.unusedVariables false

theorem cl0_ok : LoopOk Try.prog 0 (loopOf Try.f26 0) CL0 := by
  refine trimLoop_ok (trim_ok _ _) (loopTH_ok (C := cfgL0) cfgL0_ok (f := 26) (n := 60) (trim_ok [5, 6] [0]) 3 (fun (p : PC0) (_ : Unit) => CI0 p.p p.x) (fun _ _ => True) (fun _ => ()) (fun _ _ => 0) (fun _ (_ : Unit) => True) (fun p _ => CI0 p.p p.x) (fun _ => trivial) ?_)
  intro p z _
  rw [tbch0]
  obtain ⟨p, x, hx⟩ := p
  subst hx
  refine ⟨fun h => by simp at h, fun _ => ⟨rfl, SImp.of_wk (ren := []) () (by (refine ⟨?_, ?_, rfl, tl_ok rfl, ?_, ⟨Nat.le_of_ble_eq_true rfl, rfl⟩⟩ <;> (repeat' first | with_reducible exact trivial | exact AV.sub_same _ | exact .same _ | exact .inr rfl | exact .inl (in_ok rfl) | exact AV.sub_lit' | exact AV.sub_nilS | exact .none _ _ | exact trivial | refine ⟨?_, ?_⟩))) trivial⟩⟩
theorem cfgL2_ok : cfgL2.ok := ⟨tab_met, kinds_met, mixed_met, fun g fn h => (by cases h), fun g H h => (by cases h)⟩

def runTChainN : RunPool V := fun p ar K => match ar with
  | [.val (.rp o), .int .i64 k] => .ex Nat fun b => .need (o = some (b, 0)) (.ex TL fun L => .need (TabAt p b L ∧ L.fits ∧ ∀ i, (L.B.getD i []).length ≤ 1099511627776)
      (.ite (L.tm.chainKeys k).isEmpty (K .nilS p []) (.all Nat fun sp => K (.sl false 1 0 1 (L.tm.chainKeys k).length ((L.tm.chainKeys k).length + sp)) p [.arr 3 Kd.int (L.tm.chainKeys k) sp])))
  | _ => .bad 500
theorem hTChainN : HookOk Try.prog 26 (hookPool [.val, .int .i64] runTChainN) := by
  refine pool_hook (C := cfgL2) cfgL2_ok (n := 60) (fn := Try.f26) ⟨by kernel_rfl, by kernel_rfl⟩ (by kernel_rfl) ?_
  intro M p ar K0 H
  unfold runTChainN at H
  split at H
  · rename_i o k
    obtain ⟨b, rfl, L, ⟨hT, hF, hC⟩, H⟩ := H
    refine ⟨show 2 ≤ _ by decide +kernel, ?_⟩
    show (runF cfgL2 60 26 Try.f26 [.rp (some (b, 0)), .int .i64 k] [(0, .pool p)] 3).holds _
    rw [tchain2]
    simp only [Out.holds, decide_eq_true_eq, decide_eq_false_iff_not, beq_iff_eq, beq_eq_false_iff_ne, bne_iff_ne, ne_eq, bne_eq_false_iff_eq, Bool.true_and, Bool.and_true, Bool.not_eq_true', Bool.not_eq_false', Bool.and_eq_true, Bool.or_eq_true, Bool.and_eq_false_imp, true_implies, true_and, Bool.not_true, Bool.not_false, Bool.false_eq_true, Bool.true_eq_false, false_implies, and_true, beq_self_eq_true, Decidable.not_not, not_true_eq_false, not_false_eq_true]
    have out : L.tm.chainKeys k = [] → ∀ n, ∃ v p' E, Out.holds M (K0 v p' E) ∧ EndPool n AV.nilS [((0 : Nat), Blk.pool p)] v p' E := fun he n => by
      have h0 := H.1 (by rw [he]; rfl)
      exact ⟨_, p, _, h0, endPool (AV.sub_same _) rfl rfl⟩
    refine ⟨fun h => out (chainKeys_out (.inl h)) _, fun h => ⟨rfl, rfl, _, _, _, hT.f1, fun h2 => out (chainKeys_out (.inr (by omega))) _, fun h2 => ?_⟩⟩
    have hlt : k.toNat < L.B.length := by omega
    have hr := Arr.rows hT.2.2.1 (Nat.zero_le _) k.toNat (by simpa using hlt)
    obtain ⟨r1, o', r2, r3⟩ := hr
    rw [List.drop_zero] at r3
    have hck := chainKeys_in (L := L) (k := k) (by omega) (by omega)
    refine ⟨rfl, rfl, _, _, _, hT.f1, ⟨by omega, by omega, rfl⟩, o', r2, orLoop_ok cl0_ok cl_ok, (L.tm.chainKeys k).isEmpty, fun he => ?_, fun he => ?_⟩
    · have he : L.tm.chainKeys k = [] := List.isEmpty_iff.1 he
      have hx : o' = none := by
        have h0 : L.B.getD k.toNat [] = [] := by
          rw [hck] at he
          unfold keysOf ents at he
          simpa using he
        rw [h0] at r3; exact r3
      refine ⟨fun q => q = ⟨p, o', hx⟩, ⟨Nat.le_refl _, SImp.of_wk (ren := []) ⟨p, o', hx⟩ (by (refine ⟨?_, ?_, rfl, tl_ok rfl, ?_, ⟨Nat.le_of_ble_eq_true rfl, rfl⟩⟩ <;> (repeat' first | with_reducible exact trivial | exact AV.sub_same _ | exact .same _ | exact .inr rfl | exact .inl (in_ok rfl) | exact AV.sub_lit' | exact AV.sub_nilS | exact .none _ _ | exact trivial | refine ⟨?_, ?_⟩))) rfl⟩, ?_⟩
      rintro _ rfl _
      exact out he _
    · refine ⟨fun q => q = ⟨p, L.B.getD k.toNat [], o', r3, hC _⟩, ⟨Nat.le_refl _, SImp.of_wk (ren := [(3, 99)]) ⟨p, L.B.getD k.toNat [], o', r3, hC _⟩ ?_ rfl⟩, ?_⟩
      · (refine ⟨?_, ?_, rfl, tl_ok rfl, ?_, ⟨Nat.le_of_ble_eq_true rfl, rfl⟩⟩ <;> (repeat' first | with_reducible exact trivial | exact AV.sub_same _ | exact .same _ | exact .inr rfl | exact .inl (in_ok rfl) | exact AV.sub_lit' | exact AV.sub_nilS | exact .none _ _ | exact trivial | refine ⟨?_, ?_⟩))
      · rintro _ rfl sp
        have h0 := H.2 he sp
        rw [hck] at h0
        exact ⟨_, p, _, h0, ⟨_, HImp.refl _ _, rfl, ⟨⟨fun _ => 3, ⟨.same _, trivial⟩, AV.sub_same _⟩, rfl, rfl⟩⟩⟩
  · exact H.elim
def runLChainN : RunPool V := fun p ar K => match ar with
  | [.val (.rp o), .int .i64 k] => .ex (Tbs × Nat) fun z => .need (TIn p z o)
      (.ite ((Tbs.at z).2.chainKeys k).isEmpty (K .nilS p []) (.all Nat fun sp => K (.sl false 1 0 1 ((Tbs.at z).2.chainKeys k).length (((Tbs.at z).2.chainKeys k).length + sp)) p [.arr 3 Kd.int ((Tbs.at z).2.chainKeys k) sp]))
  | _ => .bad 500
theorem hLChainN : HookOk Try.prog 26 (hookPool [.val, .int .i64] runLChainN) := by
  refine hTChainN.pool fun M p ar K H => ?_
  unfold runLChainN at H
  unfold runTChainN
  split at H
  · rename_i o k
    obtain ⟨z, ⟨hT, hi, ho⟩, H⟩ := H
    obtain ⟨L, a1, a2, a3, a4, a5⟩ := hT.step hi
    have hg := hT.good hi
    obtain ⟨LL, b1, _⟩ := hT.ex
    have hl := (b1 z.2 hi).2.2.2
    refine ⟨_, ho, L, ⟨a1, a3, fun i => ?_⟩, ?_⟩
    · have := TM.chain_le hg i
      rw [← a2] at this
      have e : L.tm.B.getD i [] = ents (L.B.getD i []) := by
        show (L.B.map ents).getD i [] = _
        simp only [List.getD_eq_getElem?_getD, List.getElem?_map]
        cases L.B[i]? <;> rfl
      rw [e] at this
      have e2 : (ents (L.B.getD i [])).length = (L.B.getD i []).length := by simp [ents]
      rw [e2, a2] at this; omega
    · rw [a2]; exact H
  · exact H.elim

end Sx
end Go.Proofs.Ytkadlfadmjhahaa

/-
  Rows of numbers compared: the runs of the machine.
-/
namespace Go.Proofs.Ytkadlfadmjhahaa
namespace Sx
open Go
set_option maxRecDepth 100000
set_option linter.unusedVariables false

structure PIn where
  xs : List Int
  c : Nat
  ys : List Int
  d : Nat
  hl : xs.length = ys.length
  hb : xs.length ≤ 1099511627776
def IIn (p : PIn) (i : Nat) : St V := ⟨[(0, .sl false 0 0 1 p.xs.length p.c), (1, .sl false 1 0 1 p.ys.length p.d), (5, .int .i64 (i : Int))], [(0, .ro Kd.int p.xs), (1, .ro Kd.int p.ys)], 2, 26, [0, 1, 2, 3, 4, 5, 6, 7]⟩
def RIn (p : PIn) : St V := ⟨[(4, .ff)], [(0, .ro Kd.int p.xs), (1, .ro Kd.int p.ys)], 2, 26, [0, 1, 2, 3, 4, 5, 6, 7]⟩
def LIn : LoopS V := loopS 2 (fun p : PIn => IIn p 0) (fun p _ => p.xs = p.ys) (fun p (_ : Unit) => IIn p p.xs.length) (fun p _ => p.xs ≠ p.ys) (fun p (_ : Unit) => RIn p)
noncomputable def cfgIn : Cfg Try.prog V := ⟨tab, kinds, fun _ => none, fun _ => none, fun _ _ => none⟩
noncomputable def cfgIn1 : Cfg Try.prog V := ⟨tab, kinds, fun _ => none, fun _ => none, fun f id => match f, id with | 25, 0 => some LIn | _, _ => none⟩
theorem bints (p : PIn) (i : Nat) : runCode cfgIn 40 25 (loopOf Try.f25 0) (IIn p i) Out.stop = Out.ite (decide ((↑i : Int) < (↑p.xs.length : Int))) (Out.need (0 ≤ (↑i : Int) ∧ (↑i : Int) < (↑p.xs.length : Int)) (Out.need (0 + i < p.xs.length) (Out.need (0 ≤ (↑i : Int) ∧ (↑i : Int) < (↑p.ys.length : Int)) (Out.need (0 + i < p.ys.length) (Out.ite (p.xs.getD (0 + i) (V.enc Kd.int).dflt != p.ys.getD (0 + i) (V.enc Kd.int).dflt) (Out.stop EX.rt {env := [(4, .ff), (25, .bool (p.xs.getD (0 + i) (V.enc Kd.int).dflt != p.ys.getD (0 + i) (V.enc Kd.int).dflt)), (24, .int .i64 (p.ys.getD (0 + i) (V.enc Kd.int).dflt)), (23, .ptrR 1 (0 + i) 1 0), (22, .int .i64 (↑i : Int)), (21, .sl false 1 0 1 p.ys.length p.4), (20, .int .i64 (p.xs.getD (0 + i) (V.enc Kd.int).dflt)), (19, .ptrR 0 (0 + i) 1 0), (18, .int .i64 (↑i : Int)), (17, .sl false 0 0 1 p.xs.length p.2), (14, .bool (decide ((↑i : Int) < (↑p.xs.length : Int)))), (13, .int .i64 (↑p.xs.length : Int)), (12, .sl false 0 0 1 p.xs.length p.2), (11, .int .i64 (↑i : Int)), (0, .sl false 0 0 1 p.xs.length p.2), (1, .sl false 1 0 1 p.ys.length p.4), (5, .int .i64 (↑i : Int))], heap := [(0, .ro Kd.int p.xs), (1, .ro Kd.int p.ys)], nx := 2, nt := 26, tl := [0, 1, 2, 3, 4, 5, 6, 7] : St V }) (Out.stop EX.nx {env := [(5, .int .i64 (IntKind.i64.wrap ((↑i : Int) + 1))), (16, .int .i64 (IntKind.i64.wrap ((↑i : Int) + 1))), (15, .int .i64 (↑i : Int)), (25, .bool (p.xs.getD (0 + i) (V.enc Kd.int).dflt != p.ys.getD (0 + i) (V.enc Kd.int).dflt)), (24, .int .i64 (p.ys.getD (0 + i) (V.enc Kd.int).dflt)), (23, .ptrR 1 (0 + i) 1 0), (22, .int .i64 (↑i : Int)), (21, .sl false 1 0 1 p.ys.length p.4), (20, .int .i64 (p.xs.getD (0 + i) (V.enc Kd.int).dflt)), (19, .ptrR 0 (0 + i) 1 0), (18, .int .i64 (↑i : Int)), (17, .sl false 0 0 1 p.xs.length p.2), (14, .bool (decide ((↑i : Int) < (↑p.xs.length : Int)))), (13, .int .i64 (↑p.xs.length : Int)), (12, .sl false 0 0 1 p.xs.length p.2), (11, .int .i64 (↑i : Int)), (0, .sl false 0 0 1 p.xs.length p.2), (1, .sl false 1 0 1 p.ys.length p.4), (5, .int .i64 (↑i : Int))], heap := [(0, .ro Kd.int p.xs), (1, .ro Kd.int p.ys)], nx := 2, nt := 26, tl := [0, 1, 2, 3, 4, 5, 6, 7] : St V })))))) (Out.stop (EX.ex 0) {env := [(14, .bool (decide ((↑i : Int) < (↑p.xs.length : Int)))), (13, .int .i64 (↑p.xs.length : Int)), (12, .sl false 0 0 1 p.xs.length p.2), (11, .int .i64 (↑i : Int)), (0, .sl false 0 0 1 p.xs.length p.2), (1, .sl false 1 0 1 p.ys.length p.4), (5, .int .i64 (↑i : Int))], heap := [(0, .ro Kd.int p.xs), (1, .ro Kd.int p.ys)], nx := 2, nt := 26, tl := [0, 1, 2, 3, 4, 5, 6, 7] : St V }) := by kernel_rfl

theorem tints (xs ys : List Int) (c d : Nat) : runF cfgIn1 40 25 Try.f25 [.sl false 0 0 1 xs.length c, .sl false 1 0 1 ys.length d] [(0, .ro Kd.int xs), (1, .ro Kd.int ys)] 2 = Out.ite ((↑xs.length : Int) != (↑ys.length : Int)) (Out.fin .ff [(0, .ro Kd.int xs), (1, .ro Kd.int ys)] 2) (Out.need (LoopFor Try.prog 25 0 (loopOf Try.f25 0) LIn) (Out.ex PIn fun y => Out.ex (List (Nat × Nat)) fun y_1 => Out.need (2 ≤ 2 ∧ Wk 2 y_1 {env := [(5, .lit .i64 0), (10, .bool ((↑xs.length : Int) != (↑ys.length : Int))), (9, .int .i64 (↑ys.length : Int)), (8, .sl false 1 0 1 ys.length d), (7, .int .i64 (↑xs.length : Int)), (6, .sl false 0 0 1 xs.length c), (4, .ff), (0, .sl false 0 0 1 xs.length c), (1, .sl false 1 0 1 ys.length d)], heap := [(0, .ro Kd.int xs), (1, .ro Kd.int ys)], nx := 2, nt := 26, tl := [] : St V } ((fun p => IIn p 0) y)) ((Out.all Unit fun y_2 => Out.asm ((fun p x => p.xs = p.ys) y y_2) (Out.fin .tt [(0, .ro Kd.int y.xs), (1, .ro Kd.int y.ys)] 2)).both (Out.all Unit fun y_2 => Out.asm ((fun p x => p.xs ≠ p.ys) y y_2) (Out.fin .ff [(0, .ro Kd.int y.xs), (1, .ro Kd.int y.ys)] 2))))) := by kernel_rfl

end Sx
end Go.Proofs.Ytkadlfadmjhahaa

/-
  Rows of numbers compared: the function tells whether they are the same.
-/
namespace Go.Proofs.Ytkadlfadmjhahaa
namespace Sx
open Go
set_option linter.unusedSimpArgs false
set_option linter.unusedVariables false

theorem cfgIn_ok : cfgIn.ok := ⟨tab_met, kinds_met, mixed_met, fun g fn h => (by cases h), fun g H h => (by cases h)⟩
theorem cfgIn1_ok : cfgIn1.ok := ⟨cfgIn_ok.τ, cfgIn_ok.κ, cfgIn_ok.mixed, cfgIn_ok.fns, cfgIn_ok.hooks⟩
theorem lIn_ok : LoopOk Try.prog 0 (loopOf Try.f25 0) LIn := by
  refine loopS_ok (C := cfgIn) cfgIn_ok (f := 25) (n := 40) 2 IIn (fun p i => i ≤ p.xs.length ∧ p.xs.take i = p.ys.take i) (fun _ => 0) (fun p i => p.xs.length - i) (fun p _ => p.xs = p.ys) (fun p (_ : Unit) => IIn p p.xs.length) (fun p _ => p.xs ≠ p.ys) (fun p (_ : Unit) => RIn p) (fun p => ⟨Nat.zero_le _, rfl⟩) ?_
  intro p i ⟨hi, ht⟩
  rw [bints]
  simp only [Out.holds, Nat.zero_add, decide_eq_true_eq, decide_eq_false_iff_not, bne_iff_ne, bne_eq_false_iff_eq, ne_eq]
  have hb := p.hb
  have hl := p.hl
  have hx : ∀ (h : i < p.xs.length), p.xs.getD i (V.enc Kd.int).dflt = p.xs[i] := fun h => by rw [List.getD_eq_getElem?_getD, List.getElem?_eq_getElem h]; rfl
  have hy : ∀ (h : i < p.ys.length), p.ys.getD i (V.enc Kd.int).dflt = p.ys[i] := fun h => by rw [List.getD_eq_getElem?_getD, List.getElem?_eq_getElem h]; rfl
  refine ⟨fun h => ⟨by omega, by omega, by omega, by omega, fun h2 => ⟨(), [], ?_, ?_⟩, fun h2 => ⟨i + 1, [], ?_, ⟨by omega, ?_⟩, by omega⟩⟩, fun h => ⟨trivial, (), [], ?_, ?_⟩⟩
  · exact ⟨⟨AV.sub_same _, trivial⟩, ⟨.same _, .same _, trivial⟩, rfl, tl_ok rfl, ⟨.inr rfl, .inr rfl, trivial⟩, ⟨Nat.le_of_ble_eq_true rfl, rfl⟩⟩
  · intro hxy
    exact h2 (by rw [hxy])
  · exact ⟨⟨AV.sub_same _, AV.sub_same _, AV.sub_int (wrap_nat (by omega)), trivial⟩, ⟨.same _, .same _, trivial⟩, rfl, tl_ok rfl, ⟨.inr rfl, .inr rfl, trivial⟩, ⟨Nat.le_of_ble_eq_true rfl, rfl⟩⟩
  · have h1 : i < p.xs.length := by omega
    have h3 : i < p.ys.length := by omega
    rw [List.take_succ_eq_append_getElem h1, List.take_succ_eq_append_getElem h3, ht, ← hx h1, ← hy h3]
    exact congrArg (fun z => List.take i p.ys ++ [z]) h2
  · exact ⟨⟨AV.sub_same _, AV.sub_same _, AV.sub_int (by omega), trivial⟩, ⟨.same _, .same _, trivial⟩, rfl, tl_ok rfl, ⟨.inr rfl, .inr rfl, trivial⟩, ⟨Nat.le_of_ble_eq_true rfl, rfl⟩⟩
  · have e1 : p.xs.take i = p.xs := List.take_of_length_le (by omega)
    have e2 : p.ys.take i = p.ys := List.take_of_length_le (by omega)
    rw [← e1, ht, e2]
def runInts : RunFree V := fun ar K => match ar with
  | [.rows .int xs c, .rows .int ys d] => .need (xs.length ≤ 1099511627776) (K (.bool (decide (xs = ys))) [])
  | _ => .bad 500
theorem hInts : HookOk Try.prog 25 (hookFree [.rows Kd.int, .rows Kd.int] runInts) := by
  refine free_hook (C := cfgIn1) cfgIn1_ok (n := 40) (fn := Try.f25) ⟨by kernel_rfl, by kernel_rfl⟩ (by kernel_rfl) ?_
  intro M ar K0 H
  unfold runInts at H
  split at H
  · rename_i xs c ys d
    obtain ⟨hb, H⟩ := H
    refine ⟨show 2 ≤ _ by decide +kernel, ?_⟩
    show (runF cfgIn1 40 25 Try.f25 [.sl false 0 0 1 xs.length c, .sl false 1 0 1 ys.length d] [(0, .ro Kd.int xs), (1, .ro Kd.int ys)] 2).holds _
    rw [tints]
    refine ⟨fun h => ⟨_, _, H, endPlain ?_ rfl⟩, fun h => ?_⟩
    · refine fun r v hv => ?_
      rw [show decide (xs = ys) = false from decide_eq_false (fun e => by subst e; simp at h)]; exact hv
    · have hl : xs.length = ys.length := by
        have h' : (xs.length : Int) = (ys.length : Int) := by simpa using h
        omega
      refine ⟨lIn_ok, ⟨xs, c, ys, d, hl, hb⟩, [], ⟨Nat.le_refl _, ?_⟩, fun _ he => ⟨_, _, H, endPlain ?_ rfl⟩, fun _ he => ⟨_, _, H, endPlain ?_ rfl⟩⟩
      · exact ⟨⟨AV.sub_same _, AV.sub_same _, AV.sub_lit', trivial⟩, ⟨.same _, .same _, trivial⟩, rfl, tl_ok rfl, ⟨.inr rfl, .inr rfl, trivial⟩, ⟨Nat.le_of_ble_eq_true rfl, rfl⟩⟩
      · rw [show decide (xs = ys) = true from decide_eq_true he]; exact fun _ _ h => h
      · rw [show decide (xs = ys) = false from decide_eq_false he]; exact fun _ _ h => h
  · exact H.elim

end Sx
end Go.Proofs.Ytkadlfadmjhahaa

/-
  What is put over keeps its place: the runs of the machine.
-/
namespace Go.Proofs.Ytkadlfadmjhahaa
namespace Sx
open Go
set_option maxRecDepth 100000
set_option linter.unusedVariables false

def TQK : List Nat := [0, 1, 2, 3, 4, 5, 6, 7, 8, 9, 10, 11, 12, 13, 14, 15, 16, 17, 18, 19, 20, 21, 22, 23, 24, 25, 26, 27, 28, 29, 30]
noncomputable def hooksK : Nat → Option (HookS V) := fun g => match g with | 25 => some (hookFree [.rows Kd.int, .rows Kd.int] runInts) | g => hooksW g
noncomputable def cfgK : Cfg Try.prog V := ⟨tab, kinds, fun _ => none, hooksK, fun _ _ => none⟩
noncomputable def hooksK4 : Nat → Option (HookS V) := fun g => match g with | 26 => some (hookKeep 2 (hookPool [.val, .int .i64] runLChainN)) | g => hooksK g
noncomputable def cfgK4 : Cfg Try.prog V := ⟨tab, kinds, fun _ => none, hooksK4, fun _ _ => none⟩
noncomputable def hooksK6 : Nat → Option (HookS V) := fun g => match g with | 25 => some (hookLend 2 3 Kd.int (hookFree [.rows Kd.int, .rows Kd.int] runInts)) | g => hooksW g
noncomputable def cfgK6 : Cfg Try.prog V := ⟨tab, kinds, fun _ => none, hooksK6, fun _ _ => none⟩
noncomputable def hooksK8 : Nat → Option (HookS V) := fun g => match g with | 13 => some (hookAfter newBag (hookPool [.val, .int .i64] runLGet)) | g => hooksK g
structure P8 where
  l : List Int
  c : Nat
  k : Int
  b : Nat
  hl : l.length ≤ 100
def Q0 (q : P8) (x : Nat × Pool) : St V := ⟨[(1, .sl false 0 0 1 q.l.length q.c), (2, .int .i64 q.k), (7, .tt), (8, .rp (some (q.b, 0))), (9, .int .i64 (x.1 : Int))], [(1, .pool x.2), (0, .ro Kd.int q.l)], 2, 133, TQK⟩
structure JQ0 (q : P8) (x : Nat × Pool) : Prop where
  le : x.1 ≤ q.l.length
  ex : ∃ t : TM, TT x.2 [(q.b, t)] ∧ t.len ≤ x.1 ∧ t.O.length ≤ 150
structure P8s where
  q : P8
  p0 : Pool
  h : JQ0 q (0, p0)
def LQ0 : LoopS V := trimLoop (trimSt [1, 2, 7, 8, 9] [0, 1]) (loopH 2 (fun q : P8s => Q0 q.q (0, q.p0)) (fun q (p : Pool) => JQ0 q.q (q.q.l.length, p)) (fun q p => Q0 q.q (q.q.l.length, p)))
def Q2 (q : P8) (x : Nat × Pool) : St V := ⟨[(2, .int .i64 q.k), (7, .tt), (8, .rp (some (q.b, 0))), (10, .int .i64 (x.1 : Int))], [(1, .pool x.2)], 2, 133, TQK⟩
structure JQ2 (q : P8) (x : Nat × Pool) : Prop where
  le : x.1 ≤ 2000
  ex : ∃ t : TM, TT x.2 [(q.b, t)] ∧ t.len ≤ 1000 ∧ t.left + x.1 ≤ 150 + (x.1 - 150)
structure P82 where
  q : P8
  p0 : Pool
  h : JQ2 q (0, p0)
def LQ2 : LoopS V := trimLoop (trimSt [2, 7, 8, 10] [1]) (loopH 2 (fun q : P82 => Q2 q.q (0, q.p0)) (fun q (p : Nat × Pool) => ∃ t : TM, TT p.2 [(q.q.b, t)] ∧ t.len ≤ 1000 ∧ t.left = 0) (fun q p => Q2 q.q p))
structure P84 where
  k : Int
  b : Nat
  t : TM
  p : Pool
  hT : TT p [(b, t)]
  hl : t.left = 0
abbrev Rw := Option (Nat × Nat) × Nat × Nat
structure X84 where
  i : Nat
  ws : List Rw
  sp : Nat
  m : Bag
def Q4 (q : P84) (x : X84) : St V := ⟨[(2, .int .i64 q.k), (7, .tt), (8, .rp (some (q.b, 0))), (13, .sl false 8 0 1 x.ws.length (x.ws.length + x.sp)), (14, .int .i64 (x.i : Int))], [(8, .arr 26 Kd.rws x.ws x.sp), (2, .obj x.m), (1, .pool q.p)], 9, 133, TQK⟩
def RowIn (m : Bag) (w : Rw) (ks : List Int) : Prop := (w.1 = none ∧ ks = [] ∧ w.2.1 = 0 ∧ w.2.2 = 0) ∨ ∃ n sp, w.1 = some (n, 0) ∧ m n = some ⟨3, Kd.int, ks, sp⟩ ∧ w.2.1 = ks.length ∧ w.2.2 = ks.length + sp ∧ 0 < w.2.2
structure JQ4 (q : P84) (x : X84) : Prop where
  le : x.i ≤ q.t.B.length
  wl : x.ws.length = x.i
  ex : ∀ j, j < x.i → RowIn x.m (x.ws.getD j (none, 0, 0)) (q.t.chainKeys (j : Int))
def LQ4 : LoopS V := trimLoop (trimSt [2, 7, 8, 13, 14] [1, 2]) (loopH 8 (fun q : P84 => Q4 q ⟨0, [], 0, Bag.nil⟩) (fun q (x : X84) => JQ4 q x ∧ x.i = q.t.B.length) (fun q x => Q4 q x))
structure P86 where
  k : Int
  b : Nat
  t : TM
  p : Pool
  hT : TT p [(b, t)]
  ws : List Rw
  sp : Nat
  m : Bag
  is : Bool
  wl : ws.length = t.B.length
  ex : ∀ j, j < t.B.length → RowIn m (ws.getD j (none, 0, 0)) (t.chainKeys (j : Int))
def Q6 (q : P86) (i : Nat) : St V := ⟨[(2, .int .i64 q.k), (7, .tt), (8, .rp (some (q.b, 0))), (13, .sl false 8 0 1 q.ws.length (q.ws.length + q.sp)), (16, .bool q.is), (17, .int .i64 (i : Int))], [(8, .arr 26 Kd.rws q.ws q.sp), (2, .obj q.m), (1, .pool q.p)], 12, 133, TQK⟩
def LQ6 : LoopS V := trimLoop (trimSt [2, 7, 8, 13, 16, 17] [1, 2, 8]) (loopH 12 (fun q : P86 => Q6 q 0) (fun q (_ : Unit) => True) (fun q _ => Q6 q q.t.B.length))
noncomputable def cfgK8 : Cfg Try.prog V := ⟨tab, kinds, fun _ => none, hooksK8, fun f id => match f, id with | 8, 0 => some LQ0 | 8, 2 => some LQ2 | 8, 4 => some LQ4 | 8, 6 => some LQ6 | _, _ => none⟩
theorem tq0 (q : P8) (x : Nat × Pool) : runCode cfgK 60 8 (loopOf Try.f8 0) (Q0 q x) (stopT (trimSt [1, 2, 7, 8, 9] [0, 1])) = Out.ite (decide ((↑x.1 : Int) < (↑q.l.length : Int))) (Out.need ((0 : Int) ≤ (↑x.1 : Int) ∧ (↑x.1 : Int) < (↑q.l.length : Int)) (Out.need ((0 : Nat) + x.1 < q.l.length) (Out.ex (Tbs × Nat) fun y => Out.need (TIn x.snd y (some (q.4, (0 : Nat))) ∧ (Tbs.at y).snd.len < (1000000 : Nat)) (Out.all Pool fun y_1 => Out.asm (TT y_1 (Tbs.put y ((Tbs.at y).snd.put {key := q.l.getD ((0 : Nat) + x.1) (V.enc Kd.int).dflt, value := (0 : Int), weight := (0 : Int), node := (0 : Int) : Ent }))) (Out.stop EX.nx {env := [((1 : Nat), .sl false (0 : Nat) (0 : Nat) (1 : Nat) q.l.length q.2), ((2 : Nat), .int .i64 q.k), ((7 : Nat), .tt), ((8 : Nat), AV.rp (some (q.4, (0 : Nat)))), ((9 : Nat), .int .i64 (IntKind.i64.wrap ((↑x.1 : Int) + (1 : Int))))], heap := [((1 : Nat), Blk.pool y_1), ((0 : Nat), .ro Kd.int q.l)], nx := (2 : Nat), nt := (133 : Nat), tl := [(1 : Nat), (0 : Nat), (1 : Nat), (2 : Nat), (3 : Nat), (4 : Nat), (5 : Nat), (6 : Nat), (7 : Nat), (8 : Nat), (9 : Nat), (10 : Nat), (11 : Nat), (12 : Nat), (13 : Nat), (14 : Nat), (15 : Nat), (16 : Nat), (17 : Nat), (18 : Nat), (19 : Nat), (20 : Nat), (21 : Nat), (22 : Nat), (23 : Nat), (24 : Nat), (25 : Nat), (26 : Nat), (27 : Nat), (28 : Nat), (29 : Nat), (30 : Nat)] : St V }))))) (Out.stop (EX.ex (0 : Nat)) {env := [((1 : Nat), .sl false (0 : Nat) (0 : Nat) (1 : Nat) q.l.length q.2), ((2 : Nat), .int .i64 q.k), ((7 : Nat), .tt), ((8 : Nat), AV.rp (some (q.4, (0 : Nat)))), ((9 : Nat), .int .i64 (↑x.1 : Int))], heap := [((1 : Nat), Blk.pool x.snd), ((0 : Nat), .ro Kd.int q.l)], nx := (2 : Nat), nt := (133 : Nat), tl := [(0 : Nat), (1 : Nat), (2 : Nat), (3 : Nat), (4 : Nat), (5 : Nat), (6 : Nat), (7 : Nat), (8 : Nat), (9 : Nat), (10 : Nat), (11 : Nat), (12 : Nat), (13 : Nat), (14 : Nat), (15 : Nat), (16 : Nat), (17 : Nat), (18 : Nat), (19 : Nat), (20 : Nat), (21 : Nat), (22 : Nat), (23 : Nat), (24 : Nat), (25 : Nat), (26 : Nat), (27 : Nat), (28 : Nat), (29 : Nat), (30 : Nat)] : St V }) := by kernel_rfl

theorem tq2 (q : P8) (x : Nat × Pool) : runCode cfgK 60 8 (loopOf Try.f8 2) (Q2 q x) (stopT (trimSt [2, 7, 8, 10] [1])) = Out.ite (decide ((↑x.1 : Int) < (2000 : Int))) (Out.ex (Tbs × Nat) fun y => Out.need (TIn x.snd y (some (q.4, (0 : Nat)))) (Out.ite (decide ((fun t => (↑t.left : Int)) (Tbs.at y).snd > (0 : Int))) (Out.ex (Tbs × Nat) fun y => Out.need (TIn x.snd y (some (q.4, (0 : Nat)))) (Out.all Pool fun y_1 => Out.asm (TT y_1 (Tbs.put y ((Tbs.at y).snd.remove (-9223372036854775808 : Int)))) (Out.stop EX.nx {env := [((2 : Nat), .int .i64 q.k), ((7 : Nat), .tt), ((8 : Nat), AV.rp (some (q.4, (0 : Nat)))), ((10 : Nat), .int .i64 (IntKind.i64.wrap ((↑x.1 : Int) + (1 : Int))))], heap := [((1 : Nat), Blk.pool y_1)], nx := (2 : Nat), nt := (133 : Nat), tl := [(1 : Nat), (1 : Nat), (0 : Nat), (1 : Nat), (2 : Nat), (3 : Nat), (4 : Nat), (5 : Nat), (6 : Nat), (7 : Nat), (8 : Nat), (9 : Nat), (10 : Nat), (11 : Nat), (12 : Nat), (13 : Nat), (14 : Nat), (15 : Nat), (16 : Nat), (17 : Nat), (18 : Nat), (19 : Nat), (20 : Nat), (21 : Nat), (22 : Nat), (23 : Nat), (24 : Nat), (25 : Nat), (26 : Nat), (27 : Nat), (28 : Nat), (29 : Nat), (30 : Nat)] : St V }))) (Out.stop (EX.ex (2 : Nat)) {env := [((2 : Nat), .int .i64 q.k), ((7 : Nat), .tt), ((8 : Nat), AV.rp (some (q.4, (0 : Nat)))), ((10 : Nat), .int .i64 (↑x.1 : Int))], heap := [((1 : Nat), Blk.pool x.snd)], nx := (2 : Nat), nt := (133 : Nat), tl := [(1 : Nat), (0 : Nat), (1 : Nat), (2 : Nat), (3 : Nat), (4 : Nat), (5 : Nat), (6 : Nat), (7 : Nat), (8 : Nat), (9 : Nat), (10 : Nat), (11 : Nat), (12 : Nat), (13 : Nat), (14 : Nat), (15 : Nat), (16 : Nat), (17 : Nat), (18 : Nat), (19 : Nat), (20 : Nat), (21 : Nat), (22 : Nat), (23 : Nat), (24 : Nat), (25 : Nat), (26 : Nat), (27 : Nat), (28 : Nat), (29 : Nat), (30 : Nat)] : St V }))) (Out.stop (EX.ex (2 : Nat)) {env := [((2 : Nat), .int .i64 q.k), ((7 : Nat), .tt), ((8 : Nat), AV.rp (some (q.4, (0 : Nat)))), ((10 : Nat), .int .i64 (↑x.1 : Int))], heap := [((1 : Nat), Blk.pool x.snd)], nx := (2 : Nat), nt := (133 : Nat), tl := [(0 : Nat), (1 : Nat), (2 : Nat), (3 : Nat), (4 : Nat), (5 : Nat), (6 : Nat), (7 : Nat), (8 : Nat), (9 : Nat), (10 : Nat), (11 : Nat), (12 : Nat), (13 : Nat), (14 : Nat), (15 : Nat), (16 : Nat), (17 : Nat), (18 : Nat), (19 : Nat), (20 : Nat), (21 : Nat), (22 : Nat), (23 : Nat), (24 : Nat), (25 : Nat), (26 : Nat), (27 : Nat), (28 : Nat), (29 : Nat), (30 : Nat)] : St V }) := by kernel_rfl

theorem tq4 (q : P84) (x : X84) : runCode cfgK4 60 8 (loopOf Try.f8 4) (Q4 q x) (stopT (trimSt [2, 7, 8, 13, 14] [1, 2, 8, 9, 10, 11, 12, 13])) = Out.ex (Tbs × Nat) fun y => Out.need (TIn q.p y (some (q.2, (0 : Nat)))) (Out.ite (decide ((↑x.1 : Int) < (fun t => (↑t.B.length : Int)) (Tbs.at y).snd)) (Out.ex (Tbs × Nat) fun y => Out.need (TIn q.p y (some (q.2, (0 : Nat)))) (Out.ite ((Tbs.at y).snd.chainKeys (↑x.1 : Int)).isEmpty (Out.need ((0 : Nat) = (0 : Nat) ∧ x.ws.length = x.ws.length ∧ x.ws.length + x.3 = x.ws.length + x.3 ∧ (x.ws.length + (1 : Nat)) * (24 : Nat) ≤ (140737488355328 : Nat)) (Out.all Nat fun y => Out.stop EX.nx {env := [((2 : Nat), .int .i64 q.k), ((7 : Nat), .tt), ((8 : Nat), AV.rp (some (q.2, (0 : Nat)))), ((13 : Nat), .sl false (10 : Nat) (0 : Nat) (1 : Nat) (x.ws.length + (1 : Nat)) (x.ws.length + (1 : Nat) + y)), ((14 : Nat), .int .i64 (IntKind.i64.wrap ((↑x.1 : Int) + (1 : Int))))], heap := [((10 : Nat), .arr (26 : Nat) Kd.rws (x.ws ++ [(none, (0 : Nat), (0 : Nat))]) y), ((9 : Nat), .cells (26 : Nat) [AV.rs none (0 : Nat) (0 : Nat)]), ((2 : Nat), .obj x.m), ((1 : Nat), Blk.pool q.p)], nx := (11 : Nat), nt := (133 : Nat), tl := [(8 : Nat), (1 : Nat), (1 : Nat), (0 : Nat), (1 : Nat), (2 : Nat), (3 : Nat), (4 : Nat), (5 : Nat), (6 : Nat), (7 : Nat), (8 : Nat), (9 : Nat), (10 : Nat), (11 : Nat), (12 : Nat), (13 : Nat), (14 : Nat), (15 : Nat), (16 : Nat), (17 : Nat), (18 : Nat), (19 : Nat), (20 : Nat), (21 : Nat), (22 : Nat), (23 : Nat), (24 : Nat), (25 : Nat), (26 : Nat), (27 : Nat), (28 : Nat), (29 : Nat), (30 : Nat)] : St V })) (Out.all Nat fun y_1 => Out.need (((Tbs.at y).snd.chainKeys (↑x.1 : Int)).length = ((Tbs.at y).snd.chainKeys (↑x.1 : Int)).length ∧ ((Tbs.at y).snd.chainKeys (↑x.1 : Int)).length + y_1 = ((Tbs.at y).snd.chainKeys (↑x.1 : Int)).length + y_1 ∧ (0 : Nat) < ((Tbs.at y).snd.chainKeys (↑x.1 : Int)).length + y_1) (Out.all Nat fun y_2 => Out.asm (x.m y_2 = none) (Out.need ((0 : Nat) = (0 : Nat) ∧ x.ws.length = x.ws.length ∧ x.ws.length + x.3 = x.ws.length + x.3 ∧ (x.ws.length + (1 : Nat)) * (24 : Nat) ≤ (140737488355328 : Nat)) (Out.all Nat fun y_3 => Out.stop EX.nx {env := [((2 : Nat), .int .i64 q.k), ((7 : Nat), .tt), ((8 : Nat), AV.rp (some (q.2, (0 : Nat)))), ((13 : Nat), .sl false (11 : Nat) (0 : Nat) (1 : Nat) (x.ws.length + (1 : Nat)) (x.ws.length + (1 : Nat) + y_3)), ((14 : Nat), .int .i64 (IntKind.i64.wrap ((↑x.1 : Int) + (1 : Int))))], heap := [((11 : Nat), .arr (26 : Nat) Kd.rws (x.ws ++ [(some (y_2, (0 : Nat)), ((Tbs.at y).snd.chainKeys (↑x.1 : Int)).length, ((Tbs.at y).snd.chainKeys (↑x.1 : Int)).length + y_1)]) y_3), ((10 : Nat), .cells (26 : Nat) [AV.rs (some (y_2, (0 : Nat))) ((Tbs.at y).snd.chainKeys (↑x.1 : Int)).length (((Tbs.at y).snd.chainKeys (↑x.1 : Int)).length + y_1)]), ((2 : Nat), .obj (x.m.put y_2 {T := (3 : Nat), k := Kd.int, xs := (Tbs.at y).snd.chainKeys (↑x.1 : Int), sp := y_1 : BRow })), ((1 : Nat), Blk.pool q.p)], nx := (12 : Nat), nt := (133 : Nat), tl := [(8 : Nat), (9 : Nat), (2 : Nat), (1 : Nat), (1 : Nat), (0 : Nat), (1 : Nat), (2 : Nat), (3 : Nat), (4 : Nat), (5 : Nat), (6 : Nat), (7 : Nat), (8 : Nat), (9 : Nat), (10 : Nat), (11 : Nat), (12 : Nat), (13 : Nat), (14 : Nat), (15 : Nat), (16 : Nat), (17 : Nat), (18 : Nat), (19 : Nat), (20 : Nat), (21 : Nat), (22 : Nat), (23 : Nat), (24 : Nat), (25 : Nat), (26 : Nat), (27 : Nat), (28 : Nat), (29 : Nat), (30 : Nat)] : St V })))))) (Out.stop (EX.ex (4 : Nat)) {env := [((2 : Nat), .int .i64 q.k), ((7 : Nat), .tt), ((8 : Nat), AV.rp (some (q.2, (0 : Nat)))), ((13 : Nat), .sl false (8 : Nat) (0 : Nat) (1 : Nat) x.ws.length (x.ws.length + x.3)), ((14 : Nat), .int .i64 (↑x.1 : Int))], heap := [((8 : Nat), .arr (26 : Nat) Kd.rws x.ws x.3), ((2 : Nat), .obj x.m), ((1 : Nat), Blk.pool q.p)], nx := (9 : Nat), nt := (133 : Nat), tl := [(1 : Nat), (0 : Nat), (1 : Nat), (2 : Nat), (3 : Nat), (4 : Nat), (5 : Nat), (6 : Nat), (7 : Nat), (8 : Nat), (9 : Nat), (10 : Nat), (11 : Nat), (12 : Nat), (13 : Nat), (14 : Nat), (15 : Nat), (16 : Nat), (17 : Nat), (18 : Nat), (19 : Nat), (20 : Nat), (21 : Nat), (22 : Nat), (23 : Nat), (24 : Nat), (25 : Nat), (26 : Nat), (27 : Nat), (28 : Nat), (29 : Nat), (30 : Nat)] : St V })) := by kernel_rfl

theorem tq6 (q : P86) (i : Nat) : runCode cfgK6 60 8 (loopOf Try.f8 6) (Q6 q i) (stopT (trimSt [2, 7, 8, 13, 16, 17] [1, 2, 8])) = Out.ex (Tbs × Nat) fun y => Out.need (TIn q.p y (some (q.2, (0 : Nat)))) (Out.ite (decide ((↑i : Int) < (fun t => (↑t.B.length : Int)) (Tbs.at y).snd)) (Out.ite (decide ((↑i : Int) < (↑q.ws.length : Int))) (Out.need ((0 : Int) ≤ (↑i : Int) ∧ (↑i : Int) < (↑q.ws.length : Int)) (Out.need ((0 : Nat) + i < q.ws.length) (Out.ex (Tbs × Nat) fun y => Out.need (TIn q.p y (some (q.2, (0 : Nat)))) (Out.all Nat fun y_1 => Out.ex (List (kEl Kd.int) × Nat) fun y_2 => Out.need ((q.ws.getD ((0 : Nat) + i) (V.enc Kd.rws).dflt).fst = none ∧ y_2 = ([], (0 : Nat)) ∧ (q.ws.getD ((0 : Nat) + i) (V.enc Kd.rws).dflt).snd.fst = (0 : Nat) ∧ (q.ws.getD ((0 : Nat) + i) (V.enc Kd.rws).dflt).snd.snd = (0 : Nat) ∨ ∃ n, (q.ws.getD ((0 : Nat) + i) (V.enc Kd.rws).dflt).fst = some (n, (0 : Nat)) ∧ q.m n = some {T := (3 : Nat), k := Kd.int, xs := y_2.fst, sp := y_2.2 : BRow } ∧ (q.ws.getD ((0 : Nat) + i) (V.enc Kd.rws).dflt).snd.fst = y_2.fst.length ∧ (q.ws.getD ((0 : Nat) + i) (V.enc Kd.rws).dflt).snd.snd = y_2.fst.length + y_2.2 ∧ (0 : Nat) < (q.ws.getD ((0 : Nat) + i) (V.enc Kd.rws).dflt).snd.snd) (Out.need ((0 : Nat) + ((Tbs.at y).snd.chainKeys (↑i : Int)).length ≤ ((Tbs.at y).snd.chainKeys (↑i : Int)).length) (Out.need ((0 : Nat) + y_2.fst.length ≤ y_2.fst.length) (Out.need ((List.take ((Tbs.at y).snd.chainKeys (↑i : Int)).length (List.drop (0 : Nat) ((Tbs.at y).snd.chainKeys (↑i : Int)))).length ≤ (1099511627776 : Nat)) (Out.need ({T := (3 : Nat), k := Kd.int, xs := y_2.fst, sp := y_2.2 : BRow } = {T := (3 : Nat), k := Kd.int, xs := y_2.fst, sp := y_2.2 : BRow } ∧ q.m.less (q.ws.getD ((0 : Nat) + i) (V.enc Kd.rws).dflt).fst = q.m.less (q.ws.getD ((0 : Nat) + i) (V.enc Kd.rws).dflt).fst) (Out.ite (!decide (List.take ((Tbs.at y).snd.chainKeys (↑i : Int)).length (List.drop (0 : Nat) ((Tbs.at y).snd.chainKeys (↑i : Int))) = List.take y_2.fst.length (List.drop (0 : Nat) y_2.fst))) (Out.stop EX.rt {env := [((2 : Nat), .int .i64 q.k), ((7 : Nat), .tt), ((8 : Nat), AV.rp (some (q.2, (0 : Nat)))), ((13 : Nat), .sl false (8 : Nat) (0 : Nat) (1 : Nat) q.ws.length (q.ws.length + q.7)), ((16 : Nat), .bool q.is), ((17 : Nat), .int .i64 (↑i : Int))], heap := [((8 : Nat), .arr (26 : Nat) Kd.rws q.ws q.7), ((2 : Nat), .obj q.m), ((1 : Nat), Blk.pool q.p)], nx := (14 : Nat), nt := (133 : Nat), tl := [(12 : Nat), (13 : Nat), (2 : Nat), (1 : Nat), (1 : Nat), (0 : Nat), (1 : Nat), (2 : Nat), (3 : Nat), (4 : Nat), (5 : Nat), (6 : Nat), (7 : Nat), (8 : Nat), (9 : Nat), (10 : Nat), (11 : Nat), (12 : Nat), (13 : Nat), (14 : Nat), (15 : Nat), (16 : Nat), (17 : Nat), (18 : Nat), (19 : Nat), (20 : Nat), (21 : Nat), (22 : Nat), (23 : Nat), (24 : Nat), (25 : Nat), (26 : Nat), (27 : Nat), (28 : Nat), (29 : Nat), (30 : Nat)] : St V }) (Out.stop EX.nx {env := [((2 : Nat), .int .i64 q.k), ((7 : Nat), .tt), ((8 : Nat), AV.rp (some (q.2, (0 : Nat)))), ((13 : Nat), .sl false (8 : Nat) (0 : Nat) (1 : Nat) q.ws.length (q.ws.length + q.7)), ((16 : Nat), .bool q.is), ((17 : Nat), .int .i64 (IntKind.i64.wrap ((↑i : Int) + (1 : Int))))], heap := [((8 : Nat), .arr (26 : Nat) Kd.rws q.ws q.7), ((2 : Nat), .obj q.m), ((1 : Nat), Blk.pool q.p)], nx := (14 : Nat), nt := (133 : Nat), tl := [(12 : Nat), (13 : Nat), (2 : Nat), (1 : Nat), (1 : Nat), (0 : Nat), (1 : Nat), (2 : Nat), (3 : Nat), (4 : Nat), (5 : Nat), (6 : Nat), (7 : Nat), (8 : Nat), (9 : Nat), (10 : Nat), (11 : Nat), (12 : Nat), (13 : Nat), (14 : Nat), (15 : Nat), (16 : Nat), (17 : Nat), (18 : Nat), (19 : Nat), (20 : Nat), (21 : Nat), (22 : Nat), (23 : Nat), (24 : Nat), (25 : Nat), (26 : Nat), (27 : Nat), (28 : Nat), (29 : Nat), (30 : Nat)] : St V })))))))))) (Out.stop (EX.ex (6 : Nat)) {env := [((2 : Nat), .int .i64 q.k), ((7 : Nat), .tt), ((8 : Nat), AV.rp (some (q.2, (0 : Nat)))), ((13 : Nat), .sl false (8 : Nat) (0 : Nat) (1 : Nat) q.ws.length (q.ws.length + q.7)), ((16 : Nat), .bool q.is), ((17 : Nat), .int .i64 (↑i : Int))], heap := [((8 : Nat), .arr (26 : Nat) Kd.rws q.ws q.7), ((2 : Nat), .obj q.m), ((1 : Nat), Blk.pool q.p)], nx := (12 : Nat), nt := (133 : Nat), tl := [(1 : Nat), (0 : Nat), (1 : Nat), (2 : Nat), (3 : Nat), (4 : Nat), (5 : Nat), (6 : Nat), (7 : Nat), (8 : Nat), (9 : Nat), (10 : Nat), (11 : Nat), (12 : Nat), (13 : Nat), (14 : Nat), (15 : Nat), (16 : Nat), (17 : Nat), (18 : Nat), (19 : Nat), (20 : Nat), (21 : Nat), (22 : Nat), (23 : Nat), (24 : Nat), (25 : Nat), (26 : Nat), (27 : Nat), (28 : Nat), (29 : Nat), (30 : Nat)] : St V })) (Out.stop (EX.ex (6 : Nat)) {env := [((2 : Nat), .int .i64 q.k), ((7 : Nat), .tt), ((8 : Nat), AV.rp (some (q.2, (0 : Nat)))), ((13 : Nat), .sl false (8 : Nat) (0 : Nat) (1 : Nat) q.ws.length (q.ws.length + q.7)), ((16 : Nat), .bool q.is), ((17 : Nat), .int .i64 (↑i : Int))], heap := [((8 : Nat), .arr (26 : Nat) Kd.rws q.ws q.7), ((2 : Nat), .obj q.m), ((1 : Nat), Blk.pool q.p)], nx := (12 : Nat), nt := (133 : Nat), tl := [(1 : Nat), (0 : Nat), (1 : Nat), (2 : Nat), (3 : Nat), (4 : Nat), (5 : Nat), (6 : Nat), (7 : Nat), (8 : Nat), (9 : Nat), (10 : Nat), (11 : Nat), (12 : Nat), (13 : Nat), (14 : Nat), (15 : Nat), (16 : Nat), (17 : Nat), (18 : Nat), (19 : Nat), (20 : Nat), (21 : Nat), (22 : Nat), (23 : Nat), (24 : Nat), (25 : Nat), (26 : Nat), (27 : Nat), (28 : Nat), (29 : Nat), (30 : Nat)] : St V })) := by kernel_rfl

theorem tlaw8 (s k : Int) (l : List Int) (c : Nat) : runL cfgK8 60 8 Try.f8 [.int .i64 s, .sl false 0 0 1 l.length c, .int .i64 k] [(1, .pool Pool.nil), (0, .ro Kd.int l)] 2 = Out.ex Tbs fun y => Out.need (TT Pool.nil y) (Out.all (Pool × Nat) fun y_1 => Out.asm (TT y_1.fst (y ++ [(y_1.2, TM.new s)])) (Out.ite (some (y_1.2, (0 : Nat))).isNone (Out.fin (.bool !(some (y_1.2, (0 : Nat))).isNone) [] (0 : Nat)) (Out.ite (decide ((↑l.length : Int) > (100 : Int))) (Out.fin (.bool !(some (y_1.2, (0 : Nat))).isNone) [] (0 : Nat)) (Out.need (LoopFor Try.prog (8 : Nat) (0 : Nat) (loopOf Try.f8 (0 : Nat)) LQ0) (Out.ex (P8s → Prop) fun y => Out.need ((2 : Nat) ≤ (2 : Nat) ∧ SImp (2 : Nat) {env := [((1 : Nat), .sl false (0 : Nat) (0 : Nat) (1 : Nat) l.length c), ((2 : Nat), .int .i64 k), ((7 : Nat), .tt), ((8 : Nat), AV.rp (some (y_1.2, (0 : Nat)))), ((9 : Nat), .lit .i64 (0 : Int))], heap := [((1 : Nat), Blk.pool y_1.fst), ((0 : Nat), .ro Kd.int l)], nx := (2 : Nat), nt := (133 : Nat), tl := [(1 : Nat)] : St V } (fun q => Q0 q.q ((0 : Nat), q.p0)) y) (Out.all P8s fun y_2 => Out.asm (y y_2) (Out.all Pool fun y => Out.asm ((fun q p => JQ0 q.q (q.q.l.length, p)) y_2 y) (Out.need (LoopFor Try.prog (8 : Nat) (2 : Nat) (loopOf Try.f8 (2 : Nat)) LQ2) (Out.ex (P82 → Prop) fun y_3 => Out.need ((2 : Nat) ≤ (2 : Nat) ∧ SImp (2 : Nat) {env := [((2 : Nat), .int .i64 y_2.q.k), ((7 : Nat), .tt), ((8 : Nat), AV.rp (some (y_2.q.4, (0 : Nat)))), ((10 : Nat), .lit .i64 (0 : Int))], heap := [((1 : Nat), Blk.pool (y_2.q.l.length, y).snd)], nx := (2 : Nat), nt := (133 : Nat), tl := [(0 : Nat), (0 : Nat), (1 : Nat), (2 : Nat), (3 : Nat), (4 : Nat), (5 : Nat), (6 : Nat), (7 : Nat), (8 : Nat), (9 : Nat), (10 : Nat), (11 : Nat), (12 : Nat), (13 : Nat), (14 : Nat), (15 : Nat), (16 : Nat), (17 : Nat), (18 : Nat), (19 : Nat), (20 : Nat), (21 : Nat), (22 : Nat), (23 : Nat), (24 : Nat), (25 : Nat), (26 : Nat), (27 : Nat), (28 : Nat), (29 : Nat), (30 : Nat)] : St V } (fun q => Q2 q.q ((0 : Nat), q.p0)) y_3) (Out.all P82 fun y => Out.asm (y_3 y) (Out.all (Nat × Pool) fun y_4 => Out.asm ((fun q p => ∃ t, TT p.snd [(q.q.4, t)] ∧ t.5 ≤ (1000 : Nat) ∧ t.left = (0 : Nat)) y y_4) (Out.ex (Tbs × Nat) fun y_5 => Out.need (TIn y_4.snd y_5 (some (y.q.4, (0 : Nat)))) (Out.ite (!((Tbs.at y_5).snd.get y.q.k).isSome) (Out.ex (Tbs × Nat) fun y_6 => Out.need (TIn y_4.snd y_6 (some (y.q.4, (0 : Nat)))) (Out.fin (.bool ((fun t => (↑t.left : Int)) (Tbs.at y_6).snd == (0 : Int))) [] (0 : Nat))) (Out.ex (Tbs × Nat) fun y_6 => Out.need (TIn y_4.snd y_6 (some (y.q.4, (0 : Nat)))) (Out.ite (decide ((fun t => (↑t.left : Int)) (Tbs.at y_6).snd > (0 : Int))) (Out.ex (Tbs × Nat) fun y_7 => Out.need (TIn y_4.snd y_7 (some (y.q.4, (0 : Nat)))) (Out.fin (.bool ((fun t => (↑t.left : Int)) (Tbs.at y_7).snd == (0 : Int))) [] (0 : Nat))) (Out.need (LoopFor Try.prog (8 : Nat) (4 : Nat) (loopOf Try.f8 (4 : Nat)) LQ4) (Out.ex (P84 → Prop) fun y_7 => Out.need ((5 : Nat) ≤ (8 : Nat) ∧ SImp (8 : Nat) {env := [((2 : Nat), .int .i64 y.q.k), ((7 : Nat), .tt), ((8 : Nat), AV.rp (some (y.q.4, (0 : Nat)))), ((13 : Nat), .nilS), ((14 : Nat), .lit .i64 (0 : Int))], heap := [((2 : Nat), .obj Bag.nil), ((1 : Nat), Blk.pool y_4.snd)], nx := (5 : Nat), nt := (133 : Nat), tl := [(3 : Nat), (1 : Nat), (3 : Nat), (2 : Nat), (1 : Nat), (0 : Nat), (1 : Nat), (2 : Nat), (3 : Nat), (4 : Nat), (5 : Nat), (6 : Nat), (7 : Nat), (8 : Nat), (9 : Nat), (10 : Nat), (11 : Nat), (12 : Nat), (13 : Nat), (14 : Nat), (15 : Nat), (16 : Nat), (17 : Nat), (18 : Nat), (19 : Nat), (20 : Nat), (21 : Nat), (22 : Nat), (23 : Nat), (24 : Nat), (25 : Nat), (26 : Nat), (27 : Nat), (28 : Nat), (29 : Nat), (30 : Nat)] : St V } (fun q => Q4 q {i := (0 : Nat), ws := [], sp := (0 : Nat), m := Bag.nil : X84 }) y_7) (Out.all P84 fun y => Out.asm (y_7 y) (Out.all X84 fun y_8 => Out.asm ((fun q x => JQ4 q x ∧ x.1 = q.t.B.length) y y_8) (Out.ex (Tbs × Nat) fun y_9 => Out.need (TIn y.p y_9 (some (y.2, (0 : Nat))) ∧ (Tbs.at y_9).snd.len < (1000000 : Nat)) (Out.all Pool fun y_10 => Out.asm (TT y_10 (Tbs.put y_9 ((Tbs.at y_9).snd.put {key := y.k, value := (9 : Int), weight := (0 : Int), node := (0 : Int) : Ent }))) (Out.need (LoopFor Try.prog (8 : Nat) (6 : Nat) (loopOf Try.f8 (6 : Nat)) LQ6) (Out.ex (P86 → Prop) fun y_11 => Out.need ((11 : Nat) ≤ (12 : Nat) ∧ SImp (12 : Nat) {env := [((2 : Nat), .int .i64 y.k), ((7 : Nat), .tt), ((8 : Nat), AV.rp (some (y.2, (0 : Nat)))), ((13 : Nat), .sl false (8 : Nat) (0 : Nat) (1 : Nat) y_8.ws.length (y_8.ws.length + y_8.3)), ((16 : Nat), .bool ((Tbs.at y_9).snd.get {key := y.k, value := (9 : Int), weight := (0 : Int), node := (0 : Int) : Ent }.key).isSome), ((17 : Nat), .lit .i64 (0 : Int))], heap := [((8 : Nat), .arr (26 : Nat) Kd.rws y_8.ws y_8.3), ((2 : Nat), .obj y_8.m), ((1 : Nat), Blk.pool y_10)], nx := (11 : Nat), nt := (133 : Nat), tl := [(9 : Nat), (9 : Nat), (1 : Nat), (0 : Nat), (1 : Nat), (2 : Nat), (3 : Nat), (4 : Nat), (5 : Nat), (6 : Nat), (7 : Nat), (8 : Nat), (9 : Nat), (10 : Nat), (11 : Nat), (12 : Nat), (13 : Nat), (14 : Nat), (15 : Nat), (16 : Nat), (17 : Nat), (18 : Nat), (19 : Nat), (20 : Nat), (21 : Nat), (22 : Nat), (23 : Nat), (24 : Nat), (25 : Nat), (26 : Nat), (27 : Nat), (28 : Nat), (29 : Nat), (30 : Nat)] : St V } (fun q => Q6 q (0 : Nat)) y_11) (Out.all P86 fun y => Out.asm (y_11 y) (Out.all Unit fun y_12 => Out.asm ((fun q x => True) y y_12) (Out.ex (Tbs × Nat) fun y_13 => Out.need (TIn y.p y_13 (some (y.2, (0 : Nat)))) (Out.ite y.is (Out.fin (.bool ((((Tbs.at y_13).snd.get y.k).getD e0).value == (9 : Int))) [] (0 : Nat)) (Out.fin .ff [] (0 : Nat))))))))))))))))))))))))))))) := by kernel_rfl

end Sx
end Go.Proofs.Ytkadlfadmjhahaa

/-
  What is put over what was keeps its place in its chain: the law.
-/
namespace Go.Proofs.Ytkadlfadmjhahaa
namespace Sx
open Go
set_option linter.unusedSimpArgs false
set_option linter.unusedVariables false

theorem hooksK_ok : ∀ g H, hooksK g = some H → HookOk Try.prog g H := by
  intro g H h
  unfold hooksK at h
  split at h
  · cases h; exact hInts
  · exact hooksW_ok _ _ h
theorem hooksK4_ok : ∀ g H, hooksK4 g = some H → HookOk Try.prog g H := by
  intro g H h
  unfold hooksK4 at h
  split at h
  · cases h; exact hookKeep_ok hLChainN
  · exact hooksK_ok _ _ h
theorem hooksK6_ok : ∀ g H, hooksK6 g = some H → HookOk Try.prog g H := by
  intro g H h
  unfold hooksK6 at h
  split at h
  · cases h; exact hookLend_ok hInts
  · exact hooksW_ok _ _ h
theorem hooksK8_ok : ∀ g H, hooksK8 g = some H → HookOk Try.prog g H := by
  intro g H h
  unfold hooksK8 at h
  split at h
  · cases h; exact hookAfter_ok ⟨Try.f13, by kernel_rfl, by kernel_rfl, by kernel_rfl⟩ newBag_ok hLGet
  · exact hooksK_ok _ _ h
theorem cfgK_ok : cfgK.ok := ⟨tab_met, kinds_met, mixed_met, fun g fn h => (by cases h), hooksK_ok⟩
theorem cfgK4_ok : cfgK4.ok := ⟨tab_met, kinds_met, mixed_met, fun g fn h => (by cases h), hooksK4_ok⟩
theorem cfgK6_ok : cfgK6.ok := ⟨tab_met, kinds_met, mixed_met, fun g fn h => (by cases h), hooksK6_ok⟩
theorem cfgK8_ok : cfgK8.ok := ⟨tab_met, kinds_met, mixed_met, fun g fn h => (by cases h), hooksK8_ok⟩

/-! ## plain -/
theorem put_keeps {t : TM} (h : t.Good) (hl : t.left = 0) (e : Ent) (hg : (t.get e.key).isSome = true) : (t.put e).B.length = t.B.length ∧ ∀ k, (t.put e).chainKeys k = t.chainKeys k := by
  unfold TM.left at hl
  have hmv : t.move = t := by unfold TM.move; rw [if_pos (by omega)]
  obtain ⟨x, hx⟩ := Option.isSome_iff_exists.1 hg
  have hp : t.put e = t.setRow (t.pl e.key) (repl (t.row (t.pl e.key)) e) := by
    unfold TM.put
    rw [hmv, hx]
    show t.with_ e.key (repl (t.chain e.key) e) = _
    rw [TM.with_row, TM.chain_row]
  have hlv := TM.pl_live h.core e.key
  have hfk : fk (t.row (t.pl e.key)) e.key ≠ none := by rw [← TM.get_row, hx]; simp
  have hr := (repl_spec (h.core.nd _ hlv) hfk).2.1
  have hB : (t.put e).B.length = t.B.length := by rw [hp]; exact (t.setRow_same _ _).1
  refine ⟨hB, fun k => ?_⟩
  unfold TM.chainKeys
  rw [hB]
  split
  · have h1 : (t.put e).B.getD k.toNat [] = (t.put e).row (false, k.toNat) := rfl
    have h2 : t.B.getD k.toNat [] = t.row (false, k.toNat) := rfl
    rw [h1, h2, hp, TM.row_set hlv]
    split
    · rename_i hq; rw [hr, hq]
    · rfl
  · rfl

/-! ## the puts, and until no old buckets are left -/
theorem bq0 (q : P8) (x : Nat × Pool) (h : JQ0 q x) (Q : EX → St V → Prop) (F : AV → Heap V → Nat → Prop)
    (hnx : ∀ (ST : St V) (p : Pool), x.1 < q.l.length → JQ0 q (x.1 + 1, p) → Wk 2 [] ST (Q0 q (x.1 + 1, p)) → Q .nx ST) (hex : ∀ ST : St V, x.1 = q.l.length → Wk 2 [] ST (Q0 q x) → Q (.ex 0) ST) :
    (runCode cfgK 60 8 (loopOf Try.f8 0) (Q0 q x) (stopT (trimSt [1, 2, 7, 8, 9] [0, 1]))).holds ⟨Q, F⟩ := by
  rw [tq0]
  obtain ⟨hle, t, hT, hlen, hO⟩ := h
  have hl := q.hl
  generalize q.l.getD (0 + x.1) (V.enc Kd.int).dflt = r
  have hG : t.Good := hT.good (i := 0) Nat.zero_lt_one
  have hz : TIn x.2 ([(q.b, t)], 0) (some (q.b, 0)) := ⟨hT, Nat.zero_lt_one, rfl⟩
  simp only [Out.holds, decide_eq_true_eq, decide_eq_false_iff_not, beq_iff_eq, beq_eq_false_iff_ne, bne_iff_ne, ne_eq, bne_eq_false_iff_eq, Bool.true_and, Bool.and_true, Bool.not_eq_true', Bool.not_eq_false', Bool.and_eq_true, Bool.or_eq_true, Bool.and_eq_false_imp, true_implies, true_and, Bool.not_true, Bool.not_false, Bool.false_eq_true, Bool.true_eq_false, false_implies, and_true, beq_self_eq_true, Decidable.not_not, not_true_eq_false, not_false_eq_true]
  refine ⟨fun hlt => ?_, fun hge => hex _ (by omega) (by (refine ⟨?_, ?_, rfl, tl_ok rfl, ?_, ⟨Nat.le_of_ble_eq_true rfl, rfl⟩⟩ <;> (repeat' first | with_reducible exact trivial | exact AV.sub_same _ | exact .same _ | exact .inr rfl | exact .inl (in_ok rfl) | exact AV.sub_lit' | exact AV.sub_nilS | exact .none _ _ | exact trivial | refine ⟨?_, ?_⟩)))⟩
  have hlt' : x.1 < q.l.length := by omega
  have hw : IntKind.wrap .i64 ((x.1 : Int) + 1) = ((x.1 + 1 : Nat) : Int) := wrap_nat (by omega)
  refine ⟨⟨by omega, by omega⟩, by omega, _, ⟨hz, by show t.len < _; omega⟩, fun p' hp' => ?_⟩
  have hp' : TT p' [(q.b, t.put ⟨r, 0, 0, 0⟩)] := hp'
  refine hnx _ p' hlt' ⟨hlt', _, hp', ?_, put_old hG _ 150 hO (by omega)⟩ (by (refine ⟨?_, ?_, rfl, tl_ok rfl, ?_, ⟨Nat.le_of_ble_eq_true rfl, rfl⟩⟩ <;> (repeat' first | with_reducible exact trivial | (exact AV.sub_int hw) | exact AV.sub_same _ | exact .same _ | exact .inr rfl | exact .inl (in_ok rfl) | exact AV.sub_lit' | exact AV.sub_nilS | exact .none _ _ | exact trivial | refine ⟨?_, ?_⟩)))
  rw [(put_good hG _).2.2]; show _ ≤ x.1 + 1; split <;> omega
theorem lq0_ok : LoopOk Try.prog 0 (loopOf Try.f8 0) LQ0 := by
  refine trimLoop_ok (trim_ok _ _) (loopTH_ok (C := cfgK) cfgK_ok (f := 8) (n := 60) (trim_ok [1, 2, 7, 8, 9] [0, 1]) 2 (fun p : P8s => Q0 p.q) (fun p x => JQ0 p.q x) (fun p => (0, p.p0)) (fun p x => p.q.l.length - x.1) (fun p (y : Pool) => JQ0 p.q (p.q.l.length, y)) (fun p y => Q0 p.q (p.q.l.length, y)) (fun p => p.h) ?_)
  intro p x h
  refine bq0 p.q x h _ _ (fun ST y hlt hy hw => SImp.of_wk (x.1 + 1, y) hw ⟨hy, ?_⟩) (fun ST he hw => ⟨rfl, SImp.of_wk (ren := []) x.2 ?_ ?_⟩)
  · show p.q.l.length - (x.1 + 1) < p.q.l.length - x.1; omega
  · obtain ⟨i, m⟩ := x; simp only at he; subst he; exact hw
  · obtain ⟨i, m⟩ := x; simp only at he; subst he; exact h

theorem bq2 (q : P8) (x : Nat × Pool) (h : JQ2 q x) (Q : EX → St V → Prop) (F : AV → Heap V → Nat → Prop)
    (hnx : ∀ (ST : St V) (p : Pool), x.1 < 2000 → JQ2 q (x.1 + 1, p) → Wk 2 [] ST (Q2 q (x.1 + 1, p)) → Q .nx ST) (hex : ∀ ST : St V, (∃ t : TM, TT x.2 [(q.b, t)] ∧ t.len ≤ 1000 ∧ t.left = 0) → Wk 2 [] ST (Q2 q x) → Q (.ex 2) ST) :
    (runCode cfgK 60 8 (loopOf Try.f8 2) (Q2 q x) (stopT (trimSt [2, 7, 8, 10] [1]))).holds ⟨Q, F⟩ := by
  rw [tq2]
  obtain ⟨hle, t, hT, hln, hlf⟩ := h
  have hG : t.Good := hT.good (i := 0) Nat.zero_lt_one
  have hz : TIn x.2 ([(q.b, t)], 0) (some (q.b, 0)) := ⟨hT, Nat.zero_lt_one, rfl⟩
  have cL : ((Tbs.at ([(q.b, t)], 0)).2.left : Int) = (t.left : Int) := rfl
  simp only [Out.holds, decide_eq_true_eq, decide_eq_false_iff_not, beq_iff_eq, beq_eq_false_iff_ne, bne_iff_ne, ne_eq, bne_eq_false_iff_eq, Bool.true_and, Bool.and_true, Bool.not_eq_true', Bool.not_eq_false', Bool.and_eq_true, Bool.or_eq_true, Bool.and_eq_false_imp, true_implies, true_and, Bool.not_true, Bool.not_false, Bool.false_eq_true, Bool.true_eq_false, false_implies, and_true, beq_self_eq_true, Decidable.not_not, not_true_eq_false, not_false_eq_true]
  refine ⟨fun hlt => ⟨_, hz, ?_⟩, fun hge => hex _ ⟨t, hT, hln, by omega⟩ (by (refine ⟨?_, ?_, rfl, tl_ok rfl, ?_, ⟨Nat.le_of_ble_eq_true rfl, rfl⟩⟩ <;> (repeat' first | with_reducible exact trivial | exact AV.sub_same _ | exact .same _ | exact .inr rfl | exact .inl (in_ok rfl) | exact AV.sub_lit' | exact AV.sub_nilS | exact .none _ _ | exact trivial | refine ⟨?_, ?_⟩)))⟩
  have hlt' : x.1 < 2000 := by omega
  have hw : IntKind.wrap .i64 ((x.1 : Int) + 1) = ((x.1 + 1 : Nat) : Int) := wrap_nat (by omega)
  rw [cL]
  refine ⟨fun hgt => ⟨_, hz, fun p' hp' => ?_⟩, fun hgt => hex _ ⟨t, hT, hln, by omega⟩ (by (refine ⟨?_, ?_, rfl, tl_ok rfl, ?_, ⟨Nat.le_of_ble_eq_true rfl, rfl⟩⟩ <;> (repeat' first | with_reducible exact trivial | exact AV.sub_same _ | exact .same _ | exact .inr rfl | exact .inl (in_ok rfl) | exact AV.sub_lit' | exact AV.sub_nilS | exact .none _ _ | exact trivial | refine ⟨?_, ?_⟩)))⟩
  have hp' : TT p' [(q.b, t.remove (-9223372036854775808))] := hp'
  obtain ⟨_, f2, f3⟩ := rem_facts hG (-9223372036854775808)
  refine hnx _ p' hlt' ⟨hlt', _, hp', by omega, ?_⟩ (by (refine ⟨?_, ?_, rfl, tl_ok rfl, ?_, ⟨Nat.le_of_ble_eq_true rfl, rfl⟩⟩ <;> (repeat' first | with_reducible exact trivial | (exact AV.sub_int hw) | exact AV.sub_same _ | exact .same _ | exact .inr rfl | exact .inl (in_ok rfl) | exact AV.sub_lit' | exact AV.sub_nilS | exact .none _ _ | exact trivial | refine ⟨?_, ?_⟩)))
  rw [f2]; show _ + (x.1 + 1) ≤ 150 + (x.1 + 1 - 150); omega
theorem lq2_ok : LoopOk Try.prog 2 (loopOf Try.f8 2) LQ2 := by
  refine trimLoop_ok (trim_ok _ _) (loopTH_ok (C := cfgK) cfgK_ok (f := 8) (n := 60) (trim_ok [2, 7, 8, 10] [1]) 2 (fun p : P82 => Q2 p.q) (fun p x => JQ2 p.q x) (fun p => (0, p.p0)) (fun p x => 2000 - x.1) (fun q (p : Nat × Pool) => ∃ t : TM, TT p.2 [(q.q.b, t)] ∧ t.len ≤ 1000 ∧ t.left = 0) (fun q p => Q2 q.q p) (fun p => p.h) ?_)
  intro p x h
  refine bq2 p.q x h _ _ (fun ST y hlt hy hw => SImp.of_wk (x.1 + 1, y) hw ⟨hy, ?_⟩) (fun ST he hw => ⟨rfl, SImp.of_wk (ren := []) x hw he⟩)
  show 2000 - (x.1 + 1) < 2000 - x.1; omega

/-! ## all chains, kept -/
theorem RowIn.put {m : Bag} {w : Rw} {ks : List Int} (h : RowIn m w ks) {n : Nat} (hn : m n = none) (q : BRow) : RowIn (m.put n q) w ks := by
  rcases h with h | ⟨a, sp, h1, h2, h3⟩
  · exact .inl h
  · refine .inr ⟨a, sp, h1, ?_, h3⟩
    unfold Bag.put
    rw [if_neg (fun e => by subst e; rw [hn] at h2; cases h2)]; exact h2
theorem getD_appR {α : Type} {l : List α} {x d : α} {i : Nat} : (l ++ [x]).getD i d = if i = l.length then x else l.getD i d := getD_app
theorem bq4 (q : P84) (x : X84) (h : JQ4 q x) (Q : EX → St V → Prop) (F : AV → Heap V → Nat → Prop)
    (hnx : ∀ (ST : St V) (y : X84) (d : Nat), x.i < q.t.B.length → JQ4 q y → y.i = x.i + 1 → Wk 8 [(8, d)] ST (Q4 q y) → Q .nx ST) (hex : ∀ ST : St V, x.i = q.t.B.length → Wk 8 [(8, 8)] ST (Q4 q x) → Q (.ex 4) ST) :
    (runCode cfgK4 60 8 (loopOf Try.f8 4) (Q4 q x) (stopT (trimSt [2, 7, 8, 13, 14] [1, 2, 8, 9, 10, 11, 12, 13]))).holds ⟨Q, F⟩ := by
  rw [tq4]
  obtain ⟨hle, hwl, hex'⟩ := h
  have hG : q.t.Good := q.hT.good (i := 0) Nat.zero_lt_one
  have hb2 := hG.core.b2
  have hz : TIn q.p ([(q.b, q.t)], 0) (some (q.b, 0)) := ⟨q.hT, Nat.zero_lt_one, rfl⟩
  have cB : ((Tbs.at ([(q.b, q.t)], 0)).2.B.length : Int) = (q.t.B.length : Int) := rfl
  have cC : (Tbs.at ([(q.b, q.t)], 0)).2.chainKeys (x.i : Int) = q.t.chainKeys (x.i : Int) := rfl
  refine ⟨_, hz, ?_⟩
  simp only [cB, Out.holds, decide_eq_true_eq, decide_eq_false_iff_not, beq_iff_eq, beq_eq_false_iff_ne, bne_iff_ne, ne_eq, bne_eq_false_iff_eq, Bool.true_and, Bool.and_true, Bool.not_eq_true', Bool.not_eq_false', Bool.and_eq_true, Bool.or_eq_true, Bool.and_eq_false_imp, true_implies, true_and, Bool.not_true, Bool.not_false, Bool.false_eq_true, Bool.true_eq_false, false_implies, and_true, beq_self_eq_true, Decidable.not_not, not_true_eq_false, not_false_eq_true]
  refine ⟨fun hlt => ⟨_, hz, ?_⟩, fun hge => hex _ (by omega) (by (refine ⟨?_, ?_, rfl, tl_ok rfl, ?_, ⟨Nat.le_of_ble_eq_true rfl, rfl⟩⟩ <;> (repeat' first | with_reducible exact trivial | exact AV.sub_same _ | exact .same _ | exact .inr rfl | exact .inl (in_ok rfl) | exact AV.sub_lit' | exact AV.sub_nilS | exact .none _ _ | exact trivial | refine ⟨?_, ?_⟩)))⟩
  have hlt' : x.i < q.t.B.length := by omega
  have hw : IntKind.wrap .i64 ((x.i : Int) + 1) = ((x.i + 1 : Nat) : Int) := wrap_nat (by omega)
  simp only [cC, Out.holds, decide_eq_true_eq, decide_eq_false_iff_not, beq_iff_eq, beq_eq_false_iff_ne, bne_iff_ne, ne_eq, bne_eq_false_iff_eq, Bool.true_and, Bool.and_true, Bool.not_eq_true', Bool.not_eq_false', Bool.and_eq_true, Bool.or_eq_true, Bool.and_eq_false_imp, true_implies, true_and, Bool.not_true, Bool.not_false, Bool.false_eq_true, Bool.true_eq_false, false_implies, and_true, beq_self_eq_true, Decidable.not_not, not_true_eq_false, not_false_eq_true]
  have step : ∀ (w : Rw) (m : Bag) (sp : Nat), RowIn m w (q.t.chainKeys (x.i : Int)) → (∀ j, j < x.i → RowIn m (x.ws.getD j (none, 0, 0)) (q.t.chainKeys (j : Int))) → JQ4 q ⟨x.i + 1, x.ws ++ [w], sp, m⟩ := by
    intro w m sp h1 h2
    refine ⟨hlt', by show (x.ws ++ [w]).length = _; rw [List.length_append, List.length_singleton, hwl], fun j hj => ?_⟩
    have hj : j < x.i + 1 := hj
    show RowIn m ((x.ws ++ [w]).getD j _) _
    rw [getD_appR]
    by_cases e : j = x.i
    · rw [if_pos (by rw [hwl]; exact e), e]; exact h1
    · rw [if_neg (by rw [hwl]; exact e)]; exact h2 j (by omega)
  have el : ∀ w : Rw, (x.ws ++ [w]).length = x.ws.length + 1 := fun w => by rw [List.length_append, List.length_singleton]
  refine ⟨fun he => ⟨?_, fun sp => ?_⟩, fun he sp => ⟨?_, fun n hn => ⟨?_, fun sp2 => ?_⟩⟩⟩
  · omega
  · have he : q.t.chainKeys (x.i : Int) = [] := by simpa using he
    exact hnx _ ⟨x.i + 1, x.ws ++ [(none, 0, 0)], sp, x.m⟩ 10 hlt' (step _ _ _ (.inl ⟨rfl, he, rfl, rfl⟩) hex') rfl (by (refine ⟨?_, ?_, rfl, tl_ok rfl, ?_, ⟨Nat.le_of_ble_eq_true rfl, rfl⟩⟩ <;> (repeat' first | with_reducible exact trivial | (exact AV.sub_int hw) | (exact AV.sub_sl (el _).symm (by rw [el])) | exact AV.sub_same _ | exact .same _ | exact .inr rfl | exact .inl (in_ok rfl) | exact AV.sub_lit' | exact AV.sub_nilS | exact .none _ _ | exact trivial | refine ⟨?_, ?_⟩)))
  · have he : q.t.chainKeys (x.i : Int) ≠ [] := by intro e; rw [e] at he; simp at he
    have := List.length_pos_iff.2 he
    omega
  · omega
  · have he : q.t.chainKeys (x.i : Int) ≠ [] := by intro e; rw [e] at he; simp at he
    have hp := List.length_pos_iff.2 he
    exact hnx _ ⟨x.i + 1, x.ws ++ [(some (n, 0), (q.t.chainKeys (x.i : Int)).length, (q.t.chainKeys (x.i : Int)).length + sp)], sp2, Bag.put x.m n ⟨3, Kd.int, q.t.chainKeys (x.i : Int), sp⟩⟩ 11 hlt'
      (step _ _ _ (.inr ⟨n, sp, rfl, by simp [Bag.put], rfl, rfl, by show 0 < _ + sp; omega⟩) (fun j hj => (hex' j hj).put hn _)) rfl (by (refine ⟨?_, ?_, rfl, tl_ok rfl, ?_, ⟨Nat.le_of_ble_eq_true rfl, rfl⟩⟩ <;> (repeat' first | with_reducible exact trivial | (exact AV.sub_int hw) | (exact AV.sub_sl (el _).symm (by rw [el])) | exact AV.sub_same _ | exact .same _ | exact .inr rfl | exact .inl (in_ok rfl) | exact AV.sub_lit' | exact AV.sub_nilS | exact .none _ _ | exact trivial | refine ⟨?_, ?_⟩)))
theorem lq4_ok : LoopOk Try.prog 4 (loopOf Try.f8 4) LQ4 := by
  refine trimLoop_ok (trim_ok _ _) (loopTH_ok (C := cfgK4) cfgK4_ok (f := 8) (n := 60) (trim_ok [2, 7, 8, 13, 14] [1, 2, 8, 9, 10, 11, 12, 13]) 8 (fun p : P84 => Q4 p) (fun p x => JQ4 p x) (fun p => ⟨0, [], 0, Bag.nil⟩) (fun p x => p.t.B.length - x.i) (fun q (x : X84) => JQ4 q x ∧ x.i = q.t.B.length) (fun q x => Q4 q x) (fun p => ⟨Nat.zero_le _, rfl, fun j hj => absurd hj (Nat.not_lt_zero _)⟩) ?_)
  intro p x h
  refine bq4 p x h _ _ (fun ST y d hlt hy he hw => SImp.of_wk y hw ⟨hy, ?_⟩) (fun ST he hw => ⟨rfl, SImp.of_wk x hw ⟨h, he⟩⟩)
  show p.t.B.length - y.i < p.t.B.length - x.i; omega

/-! ## and compared -/
theorem bq6 (q : P86) (i : Nat) (hi : i ≤ q.t.B.length) (Q : EX → St V → Prop) (F : AV → Heap V → Nat → Prop)
    (hnx : ∀ (ST : St V), i < q.t.B.length → Wk 12 [] ST (Q6 q (i + 1)) → Q .nx ST) (hex : ∀ ST : St V, i = q.t.B.length → Wk 12 [] ST (Q6 q i) → Q (.ex 6) ST) :
    (runCode cfgK6 60 8 (loopOf Try.f8 6) (Q6 q i) (stopT (trimSt [2, 7, 8, 13, 16, 17] [1, 2, 8]))).holds ⟨Q, F⟩ := by
  rw [tq6]
  have hG : q.t.Good := q.hT.good (i := 0) Nat.zero_lt_one
  have hb2 := hG.core.b2
  have hz : TIn q.p ([(q.b, q.t)], 0) (some (q.b, 0)) := ⟨q.hT, Nat.zero_lt_one, rfl⟩
  have cB : ((Tbs.at ([(q.b, q.t)], 0)).2.B.length : Int) = (q.t.B.length : Int) := rfl
  have cC : (Tbs.at ([(q.b, q.t)], 0)).2.chainKeys (i : Int) = q.t.chainKeys (i : Int) := rfl
  have hwl := q.wl
  refine ⟨_, hz, ?_⟩
  simp only [cB, Out.holds, decide_eq_true_eq, decide_eq_false_iff_not, beq_iff_eq, beq_eq_false_iff_ne, bne_iff_ne, ne_eq, bne_eq_false_iff_eq, Bool.true_and, Bool.and_true, Bool.not_eq_true', Bool.not_eq_false', Bool.and_eq_true, Bool.or_eq_true, Bool.and_eq_false_imp, true_implies, true_and, Bool.not_true, Bool.not_false, Bool.false_eq_true, Bool.true_eq_false, false_implies, and_true, beq_self_eq_true, Decidable.not_not, not_true_eq_false, not_false_eq_true]
  refine ⟨fun hlt => ⟨fun hlt2 => ⟨⟨by omega, by omega⟩, by omega, _, hz, ?_⟩, fun hge => absurd hlt (by omega)⟩, fun hge => hex _ (by omega) (by (refine ⟨?_, ?_, rfl, tl_ok rfl, ?_, ⟨Nat.le_of_ble_eq_true rfl, rfl⟩⟩ <;> (repeat' first | with_reducible exact trivial | exact AV.sub_same _ | exact .same _ | exact .inr rfl | exact .inl (in_ok rfl) | exact AV.sub_lit' | exact AV.sub_nilS | exact .none _ _ | exact trivial | refine ⟨?_, ?_⟩)))⟩
  have hlt' : i < q.t.B.length := by omega
  have hw : IntKind.wrap .i64 ((i : Int) + 1) = ((i + 1 : Nat) : Int) := wrap_nat (by omega)
  simp only [cC, Out.holds, decide_eq_true_eq, decide_eq_false_iff_not, beq_iff_eq, beq_eq_false_iff_ne, bne_iff_ne, ne_eq, bne_eq_false_iff_eq, Bool.true_and, Bool.and_true, Bool.not_eq_true', Bool.not_eq_false', Bool.and_eq_true, Bool.or_eq_true, Bool.and_eq_false_imp, true_implies, true_and, Bool.not_true, Bool.not_false, Bool.false_eq_true, Bool.true_eq_false, false_implies, and_true, beq_self_eq_true, Decidable.not_not, not_true_eq_false, not_false_eq_true]
  have hrow := q.ex i hlt'
  have hkl : (q.t.chainKeys (i : Int)).length ≤ 1048576 := by
    have h1 := TM.chain_le hG i
    obtain ⟨LL, b1, _⟩ := q.hT.ex
    have h2 : q.t.len ≤ 1048576 := (b1 0 Nat.zero_lt_one).2.2.2
    unfold TM.chainKeys
    split
    · rw [List.length_map, Int.toNat_natCast]; omega
    · simp
  intro sp
  rw [show (0 + i) = i from Nat.zero_add i]
  have hd : (V.enc Kd.rws).dflt = ((none, 0, 0) : Rw) := rfl
  rw [hd]
  have fin : ∀ ks : List Int, ks = q.t.chainKeys (i : Int) → ks.length ≤ 1048576 := fun ks e => by rw [e]; exact hkl
  rcases hrow with ⟨r1, r2, r3, r4⟩ | ⟨n, sp', r1, r2, r3, r4, r5⟩
  · refine ⟨([], 0), .inl ⟨r1, rfl, r3, r4⟩, by omega, by simp, ?_⟩
    rw [r2]
    simp only [Out.holds, decide_eq_true_eq, decide_eq_false_iff_not, beq_iff_eq, beq_eq_false_iff_ne, bne_iff_ne, ne_eq, bne_eq_false_iff_eq, Bool.true_and, Bool.and_true, Bool.not_eq_true', Bool.not_eq_false', Bool.and_eq_true, Bool.or_eq_true, Bool.and_eq_false_imp, true_implies, true_and, Bool.not_true, Bool.not_false, Bool.false_eq_true, Bool.true_eq_false, false_implies, and_true, beq_self_eq_true, Decidable.not_not, not_true_eq_false, not_false_eq_true]
    exact ⟨by simp, hnx _ hlt' (by (refine ⟨?_, ?_, rfl, tl_ok rfl, ?_, ⟨Nat.le_of_ble_eq_true rfl, rfl⟩⟩ <;> (repeat' first | with_reducible exact trivial | (exact AV.sub_int hw) | exact AV.sub_same _ | exact .same _ | exact .inr rfl | exact .inl (in_ok rfl) | exact AV.sub_lit' | exact AV.sub_nilS | exact .none _ _ | exact trivial | refine ⟨?_, ?_⟩)))⟩
  · refine ⟨(q.t.chainKeys (i : Int), sp'), .inr ⟨n, r1, r2, r3, r4, r5⟩, by omega, by omega, by rw [List.length_take]; omega, fun hh => ?_, fun _ => ?_⟩
    · exact absurd rfl hh
    · exact hnx _ hlt' (by (refine ⟨?_, ?_, rfl, tl_ok rfl, ?_, ⟨Nat.le_of_ble_eq_true rfl, rfl⟩⟩ <;> (repeat' first | with_reducible exact trivial | (exact AV.sub_int hw) | exact AV.sub_same _ | exact .same _ | exact .inr rfl | exact .inl (in_ok rfl) | exact AV.sub_lit' | exact AV.sub_nilS | exact .none _ _ | exact trivial | refine ⟨?_, ?_⟩)))
theorem lq6_ok : LoopOk Try.prog 6 (loopOf Try.f8 6) LQ6 := by
  refine trimLoop_ok (trim_ok _ _) (loopTH_ok (C := cfgK6) cfgK6_ok (f := 8) (n := 60) (trim_ok [2, 7, 8, 13, 16, 17] [1, 2, 8]) 12 (fun p : P86 => Q6 p) (fun p i => i ≤ p.t.B.length) (fun p => 0) (fun p i => p.t.B.length - i) (fun q (_ : Unit) => True) (fun q _ => Q6 q q.t.B.length) (fun p => Nat.zero_le _) ?_)
  intro p i h
  refine bq6 p i h _ _ (fun ST hlt hw => SImp.of_wk (i + 1) hw ⟨hlt, ?_⟩) (fun ST he hw => ⟨rfl, SImp.of_wk (ren := []) () ?_ trivial⟩)
  · show p.t.B.length - (i + 1) < p.t.B.length - i; omega
  · subst he; exact hw
/-- The law, as the machine tells it. -/
theorem law8 (s k : Int) (l : List Int) (c : Nat) : (runL cfgK8 60 8 Try.f8 [.int .i64 s, .sl false 0 0 1 l.length c, .int .i64 k] [(1, .pool Pool.nil), (0, .ro Kd.int l)] 2).holds ⟨fun _ _ => False, fun v _ _ => v.sub .tt⟩ := by
  rw [tlaw8]
  refine ⟨[], TT.nil, ?_⟩
  rintro ⟨p0, b⟩ h0
  simp only [Option.isNone_some, Out.holds, decide_eq_true_eq, decide_eq_false_iff_not, beq_iff_eq, beq_eq_false_iff_ne, bne_iff_ne, ne_eq, bne_eq_false_iff_eq, Bool.true_and, Bool.and_true, Bool.not_eq_true', Bool.not_eq_false', Bool.and_eq_true, Bool.or_eq_true, Bool.and_eq_false_imp, true_implies, true_and, Bool.not_true, Bool.not_false, Bool.false_eq_true, Bool.true_eq_false, false_implies, and_true, beq_self_eq_true, Decidable.not_not, not_true_eq_false, not_false_eq_true]
  refine ⟨fun _ => AV.sub_same _, fun hl => ?_⟩
  have hq : l.length ≤ 100 := by omega
  have hJ : JQ0 ⟨l, c, k, b, hq⟩ (0, p0) := ⟨Nat.zero_le _, TM.new s, h0, Nat.zero_le _, Nat.zero_le _⟩
  refine ⟨lq0_ok, fun p => p = ⟨⟨l, c, k, b, hq⟩, p0, hJ⟩, ⟨Nat.le_refl _, SImp.of_wk (ren := []) ⟨⟨l, c, k, b, hq⟩, p0, hJ⟩ (by (refine ⟨?_, ?_, rfl, tl_ok rfl, ?_, ⟨Nat.le_of_ble_eq_true rfl, rfl⟩⟩ <;> (repeat' first | with_reducible exact trivial | exact AV.sub_same _ | exact .same _ | exact .inr rfl | exact .inl (in_ok rfl) | exact AV.sub_lit' | exact AV.sub_nilS | exact .none _ _ | exact trivial | refine ⟨?_, ?_⟩))) rfl⟩, ?_⟩
  rintro _ rfl p1 ⟨_, t1, hT1, hlen1, hO1⟩
  have hJ2 : JQ2 ⟨l, c, k, b, hq⟩ (0, p1) := ⟨Nat.zero_le _, t1, hT1, by dsimp only at hlen1; omega, by unfold TM.left; show _ + 0 ≤ 150 + (0 - 150); omega⟩
  refine ⟨lq2_ok, fun p => p = ⟨⟨l, c, k, b, hq⟩, p1, hJ2⟩, ⟨Nat.le_refl _, SImp.of_wk (ren := []) ⟨⟨l, c, k, b, hq⟩, p1, hJ2⟩ (by (refine ⟨?_, ?_, rfl, tl_ok rfl, ?_, ⟨Nat.le_of_ble_eq_true rfl, rfl⟩⟩ <;> (repeat' first | with_reducible exact trivial | exact AV.sub_same _ | exact .same _ | exact .inr rfl | exact .inl (in_ok rfl) | exact AV.sub_lit' | exact AV.sub_nilS | exact .none _ _ | exact trivial | refine ⟨?_, ?_⟩))) rfl⟩, ?_⟩
  rintro _ rfl p2 ⟨t, hT, hln, hlf⟩
  dsimp only at hT
  have hz : TIn p2.2 ([(b, t)], 0) (some (b, 0)) := ⟨hT, Nat.zero_lt_one, rfl⟩
  have hG : t.Good := hT.good (i := 0) Nat.zero_lt_one
  have cL : ((Tbs.at ([(b, t)], 0)).2.left : Int) = 0 := by show (t.left : Int) = 0; omega
  have cG : (Tbs.at ([(b, t)], 0)).2.get k = t.get k := rfl
  refine ⟨_, hz, ?_⟩
  simp only [cL, cG, Out.holds, decide_eq_true_eq, decide_eq_false_iff_not, beq_iff_eq, beq_eq_false_iff_ne, bne_iff_ne, ne_eq, bne_eq_false_iff_eq, Bool.true_and, Bool.and_true, Bool.not_eq_true', Bool.not_eq_false', Bool.and_eq_true, Bool.or_eq_true, Bool.and_eq_false_imp, true_implies, true_and, Bool.not_true, Bool.not_false, Bool.false_eq_true, Bool.true_eq_false, false_implies, and_true, beq_self_eq_true, Decidable.not_not, not_true_eq_false, not_false_eq_true]
  refine ⟨fun hng => ⟨_, hz, ?_⟩, fun hg => ⟨_, hz, fun hgt => ?_, fun _ => ?_⟩⟩
  · rw [cL]; exact AV.sub_same _
  · rw [cL] at hgt; omega
  have hg : (t.get k).isSome = true := by simpa using hg
  refine ⟨lq4_ok, fun p => p = ⟨k, b, t, p2.2, hT, hlf⟩, ⟨by decide, SImp.of_wk (ren := [(8, 99)]) ⟨k, b, t, p2.2, hT, hlf⟩ (by (refine ⟨?_, ?_, rfl, tl_ok rfl, ?_, ⟨Nat.le_of_ble_eq_true rfl, rfl⟩⟩ <;> (repeat' first | with_reducible exact trivial | exact AV.sub_same _ | exact .same _ | exact .inr rfl | exact .inl (in_ok rfl) | exact AV.sub_lit' | exact AV.sub_nilS | exact .none _ _ | exact trivial | refine ⟨?_, ?_⟩))) rfl⟩, ?_⟩
  rintro _ rfl x ⟨⟨_, xw, xe⟩, xi⟩
  dsimp only at xw xe xi
  refine ⟨_, ⟨hz, by show t.len < _; omega⟩, fun p3 hp3 => ?_⟩
  have hT3 : TT p3 [(b, t.put ⟨k, 9, 0, 0⟩)] := hp3
  obtain ⟨kB, kC⟩ := put_keeps hG hlf ⟨k, 9, 0, 0⟩ hg
  have hwl : x.ws.length = (t.put ⟨k, 9, 0, 0⟩).B.length := by rw [kB, xw, xi]
  have hex : ∀ j, j < (t.put ⟨k, 9, 0, 0⟩).B.length → RowIn x.m (x.ws.getD j (none, 0, 0)) ((t.put ⟨k, 9, 0, 0⟩).chainKeys (j : Int)) := fun j hj => by rw [kC]; exact xe j (by rw [xi, ← kB]; exact hj)
  refine ⟨lq6_ok, fun p => p = ⟨k, b, t.put ⟨k, 9, 0, 0⟩, p3, hT3, x.ws, x.sp, x.m, (t.get k).isSome, hwl, hex⟩, ⟨by decide, SImp.of_wk (ren := []) ⟨k, b, t.put ⟨k, 9, 0, 0⟩, p3, hT3, x.ws, x.sp, x.m, (t.get k).isSome, hwl, hex⟩ (by (refine ⟨?_, ?_, rfl, tl_ok rfl, ?_, ⟨Nat.le_of_ble_eq_true rfl, rfl⟩⟩ <;> (repeat' first | with_reducible exact trivial | exact AV.sub_same _ | exact .same _ | exact .inr rfl | exact .inl (in_ok rfl) | exact AV.sub_lit' | exact AV.sub_nilS | exact .none _ _ | exact trivial | refine ⟨?_, ?_⟩))) rfl⟩, ?_⟩
  rintro _ rfl _
  have hz3 : TIn p3 ([(b, t.put ⟨k, 9, 0, 0⟩)], 0) (some (b, 0)) := ⟨hT3, Nat.zero_lt_one, rfl⟩
  have hv : (Tbs.at ([(b, t.put ⟨k, 9, 0, 0⟩)], 0)).2.get k = some ⟨k, 9, 0, 0⟩ := by
    show (t.put ⟨k, 9, 0, 0⟩).get k = _
    rw [(put_good hG _).2.1 k]; simp
  refine ⟨_, hz3, fun _ => ?_, fun hh => ?_⟩
  · rw [hv]; exact AV.sub_same _
  · have hh : (t.get k).isSome = false := hh
    rw [hg] at hh; cases hh
theorem law8_calls (s : Int) (l : List Int) (c : Nat) (k : Int) : CallsSx Try.prog 8 [.int .i64 s, .sl false 0 0 1 l.length c, .int .i64 k] ([(0, .ro Kd.int l)] : Heap V) 1 (fun v _ _ _ => v.sub .tt) :=
  (calls_runL cfgK8_ok (n := 60) (fn := Try.f8) ⟨by kernel_rfl, by kernel_rfl⟩ (by kernel_rfl) (show 3 ≤ _ by decide +kernel) (law8 s k l c)).nilPool rfl (by decide)

end Sx
end Go.Proofs.Ytkadlfadmjhahaa

