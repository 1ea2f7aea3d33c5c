/-
  Runs on known arguments, quickly: the same as runCode, laid so that the kernel has little to copy.
-/
import Derived.Test.YtmcmdghmglopnaaGreatDoorGrowingP4
namespace Go.Proofs.YtmcmdghmglopnaaGreatDoor
namespace Sx
open Go
set_option linter.unusedVariables false

def tabQ : Tab := quickTab tab
@[reducible] def RU : Uni := RawU tabQ
def kindsQ : Kinds RU := rawKinds tabQ
theorem quickQ : quickT tabQ = true := by kernel_rfl
theorem tabQ_met : tabQ.met Tryz.prog := quick_met tab_met
theorem kindsQ_met : kindsQ.met tabQ := rawKinds_met tabQ

noncomputable section
/-! ## looking up -/
def getF (e : List (Nat × AV)) (t : Nat) : AV := @List.rec (Nat × AV) (fun _ => AV) .und (fun q _ ih => @Prod.rec Nat AV (fun _ => AV) (fun i v => @Bool.rec (fun _ => AV) ih v (Nat.beq i t)) q) e
theorem getF_eq (t : Nat) : ∀ e : List (Nat × AV), getF e t = envGet e t
  | [] => rfl
  | (i, v) :: e => by
    show @Bool.rec (fun _ => AV) (getF e t) v (Nat.beq i t) = cond (Nat.beq i t) v (envGet e t)
    rw [getF_eq t e]
    cases Nat.beq i t <;> rfl
/-- What is the same each time is kept in a box: the kernel opens it once. -/
structure BoxO where
  run : List (Nat × AV) → AV
def boxO (x : Operand) : BoxO := match x with
  | .tmp t => ⟨fun e => getF e t⟩
  | x => ⟨fun e => evO e x⟩
def evF (e : List (Nat × AV)) (x : Operand) : AV := (boxO x).run e
theorem evF_eq (e : List (Nat × AV)) : evF e = evO e := by
  funext x; cases x <;> first | exact getF_eq _ e | rfl
structure BoxP where
  run : List (Nat × AV) → AV → List (Nat × AV)
def boxP (d : Option Nat) : BoxP := match d with | some d => ⟨fun e v => (d, v) :: e⟩ | none => ⟨fun e _ => e⟩
def putF (e : List (Nat × AV)) (d : Option Nat) (v : AV) : List (Nat × AV) := (boxP d).run e v
theorem putF_eq (e : List (Nat × AV)) (d : Option Nat) (v : AV) : putF e d v = envPut e d v := by cases d <;> rfl
def backF (e0 e : List (Nat × AV)) : List (Nat × AV) := @List.rec (Nat × AV) (fun _ => List (Nat × AV)) [] (fun q _ ih => (q.1, getF e q.1) :: ih) e0
theorem backF_eq (e : List (Nat × AV)) : ∀ e0 : List (Nat × AV), backF e0 e = backEnv e0 e
  | [] => rfl
  | q :: e0 => by
    show (q.1, getF e q.1) :: backF e0 e = (q.1, envGet e q.1) :: backEnv e0 e
    rw [backF_eq e e0, getF_eq]
inductive Grd where
  | free
  | never
  | at (d : Nat) (wt : Bool)
def grdOf (ops : Array Oper) (o : Oper) : Grd := match o.guard with
  | none => .free
  | some (j, wt) => (match (ops[j]?).bind (·.dst) with
    | none => .never
    | some d => .at d wt)
def grdV (v : AV) (d : Nat) (wt : Bool) (yes no bad : Out RU) (ask : Nat → Bool → Out RU) : Out RU := match v with
  | .tt => cond wt yes no
  | .ff => cond wt no yes
  | .bool b => ask d b
  | .raw (.tuple _) => no
  | _ => bad
def wantK (ops : Array Oper) (env : List (Nat × AV)) (o : Oper) (yes no bad : Out RU) (ask : Nat → Bool → Out RU) : Out RU := @Grd.rec (fun _ => Out RU) yes no (fun d wt => grdV (getF env d) d wt yes no bad ask) (grdOf ops o)
theorem wantK_eq (ops : Array Oper) (env : List (Nat × AV)) (o : Oper) (yes no bad : Out RU) (ask : Nat → Bool → Out RU) : wantK ops env o yes no bad ask = (match want? ops env o with | .yes => yes | .no => no | .ask d b => ask d b | .bad => bad) := by
  unfold wantK grdOf want?
  cases o.guard with
  | none => rfl
  | some q =>
    obtain ⟨j, wt⟩ := q
    simp only
    cases (ops[j]?).bind (·.dst) with
    | none => rfl
    | some d =>
      simp only [getF_eq, grdV]
      generalize envGet env d = a
      cases a <;> first | rfl | (cases wt <;> rfl) | (rename_i v; cases v <;> rfl)
def getH (h : Heap RU) (id : Nat) : Option (Blk RU) := @List.rec (Nat × Blk RU) (fun _ => Option (Blk RU)) none (fun q _ ih => @Prod.rec Nat (Blk RU) (fun _ => Option (Blk RU)) (fun i v => @Bool.rec (fun _ => Option (Blk RU)) ih (some v) (Nat.beq i id)) q) h
theorem getH_eq (id : Nat) : ∀ h : Heap RU, getH h id = Heap.get h id
  | [] => rfl
  | (i, v) :: h => by
    show @Bool.rec (fun _ => Option (Blk RU)) (getH h id) (some v) (Nat.beq i id) = cond (Nat.beq i id) (some v) (Heap.get h id)
    rw [getH_eq id h]
    cases Nat.beq i id <;> rfl

def isRoB (B : Blk RU) : Bool := match B with | .ro _ _ => true | .rpool _ => true | _ => false
def noRoF (h : Heap RU) : Bool := @List.rec (Nat × Blk RU) (fun _ => Bool) true (fun q _ ih => @Bool.rec (fun _ => Bool) false (@Prod.rec Nat (Blk RU) (fun _ => Bool) (fun _ B => @Bool.rec (fun _ => Bool) true false (isRoB B)) q) ih) h
theorem noRoF_eq : ∀ h : Heap RU, noRoF h = noRo h
  | [] => rfl
  | (i, B) :: h => by
    show @Bool.rec (fun _ => Bool) false (@Bool.rec (fun _ => Bool) true false (isRoB B)) (noRoF h) = _
    rw [noRoF_eq h]
    cases B <;> (simp only [noRo, isRoB]; first | (cases noRo h <;> rfl) | rfl)
def elemF (l : List Nat) (i : Nat) : Bool := @List.rec Nat (fun _ => Bool) false (fun x _ ih => @Bool.rec (fun _ => Bool) ih true (Nat.beq i x)) l
theorem elemF_eq (i : Nat) : ∀ l : List Nat, elemF l i = elemN l i
  | [] => rfl
  | x :: l => by
    show @Bool.rec (fun _ => Bool) (elemF l i) true (Nat.beq i x) = (Nat.beq i x || elemN l i)
    rw [elemF_eq i l]; cases Nat.beq i x <;> rfl
def stableF (ops : Array Oper) (i : Nat) (T : List Nat) (rds : List (Nat × Nat)) : Bool :=
  @List.rec (Nat × Nat) (fun _ => Bool) true (fun q _ ih => @Prod.rec Nat Nat (fun _ => Bool) (fun a id => @Bool.rec (fun _ => Bool) (@Bool.rec (fun _ => Bool) ih false (elemF T id)) ih (ancB ops ops.size i a)) q) rds
theorem stableF_eq (ops : Array Oper) (i : Nat) (T : List Nat) : ∀ rds : List (Nat × Nat), stableF ops i T rds = stable ops i T rds
  | [] => rfl
  | (a, id) :: rds => by
    show @Bool.rec (fun _ => Bool) (@Bool.rec (fun _ => Bool) (stableF ops i T rds) false (elemF T id)) (stableF ops i T rds) (ancB ops ops.size i a) = ((ancB ops ops.size i a || !(elemN T id)) && stable ops i T rds)
    rw [stableF_eq ops i T rds, elemF_eq]
    cases ancB ops ops.size i a <;> cases elemN T id <;> rfl

/-! ## what leaves memory alone -/
abbrev LzS := (Operand → AV) → Heap RU → (AV → Option Nat → Out RU) → Out RU
def lAny (op : Op) : LzS := fun ev h K => evalL tabQ kindsQ op ev h K
def lMove (x : Operand) : LzS := fun ev _ K => K (ev x) none
def bInt (f : IntKind → Int → Int → Int) (x y : AV) (K : AV → Out RU) : Out RU := match x.num, y.num with
  | some (k, a, la), some (k', b, lb) => cond (decide (k = k')) (K (mkInt (la && lb) k (f k a b))) (.bad 3)
  | _, _ => .bad 5
def bCmp (f : Int → Int → Bool) (x y : AV) (K : AV → Out RU) : Out RU := match x.num, y.num with
  | some (k, a, la), some (k', b, lb) => cond (decide (k = k')) (K (mkBool (la && lb) (f a b))) (.bad 3)
  | _, _ => .bad 5
structure BoxB where
  run : AV → AV → (AV → Out RU) → Out RU
def boxB (b : BinOp) : BoxB := match b with
  | .add => ⟨bInt (fun k a b => k.wrap (a + b))⟩
  | .sub => ⟨bInt (fun k a b => k.wrap (a - b))⟩
  | .mul => ⟨bInt (fun k a b => k.wrap (a * b))⟩
  | .and => ⟨bInt (fun k a b => bitsOp .and k a b)⟩
  | .or => ⟨bInt (fun k a b => bitsOp .or k a b)⟩
  | .xor => ⟨bInt (fun k a b => bitsOp .xor k a b)⟩
  | .andNot => ⟨bInt (fun k a b => bitsOp .andNot k a b)⟩
  | .eql => ⟨bCmp (fun a b => a == b)⟩
  | .neq => ⟨bCmp (fun a b => a != b)⟩
  | .lss => ⟨bCmp (fun a b => decide (a < b))⟩
  | .leq => ⟨bCmp (fun a b => decide (a ≤ b))⟩
  | .gtr => ⟨bCmp (fun a b => decide (a > b))⟩
  | .geq => ⟨bCmp (fun a b => decide (a ≥ b))⟩
  | b => ⟨evalBin b⟩
def binF (b : BinOp) (x y : AV) (K : AV → Out RU) : Out RU := (boxB b).run x y K
theorem binF_eq (b : BinOp) (x y : AV) (K : AV → Out RU) : binF b x y K = evalBin b x y K := by
  cases b <;> first
    | rfl
    | (simp only [binF, boxB, bInt, bCmp, evalBin])
def lBin (b : BinOp) (x y : Operand) : LzS := fun ev _ K => binF b (ev x) (ev y) fun v => K v none
def lEq (neg : Bool) (T : Nat) (x y : Operand) (yt : Nat) : LzS := fun ev h K => match ev x with
  | .rp o => lAny (.binOp (cond neg .neq .eql) T x y yt) ev h K
  | .int k n => (match ev y with | .rp o => lAny (.binOp (cond neg .neq .eql) T x y yt) ev h K | v => bCmp (fun a b => cond neg (a != b) (a == b)) (.int k n) v fun v => K v none)
  | .lit k n => (match ev y with | .rp o => lAny (.binOp (cond neg .neq .eql) T x y yt) ev h K | v => bCmp (fun a b => cond neg (a != b) (a == b)) (.lit k n) v fun v => K v none)
  | u => (match ev y with | .rp o => lAny (.binOp (cond neg .neq .eql) T x y yt) ev h K | v => evalEq tabQ neg T x y u v K)
def lNil1 (v : AV) (K : AV → Option Nat → Out RU) : Out RU := match v with
  | .rp o => .need (o.isSome = true) (K (.rp o) none)
  | v => cond v.solid (K v none) (.bad 66)
def lNil (x : Operand) : LzS := fun ev _ K => lNil1 (ev x) K
def faOff (T f : Nat) : Option Nat := match structOf tabQ T f with
  | some (off, ft) => (match tabQ ft with | some R => cond (Nat.beq R.size 0) none (some off) | none => none)
  | none => none
def lFA1 (o : Option Nat) (T f : Nat) (v : AV) (K : AV → Option Nat → Out RU) : Out RU := match v with
  | .rp q => pfield tabQ T f q K
  | .ptr id a => (match o with | some off => K (.ptr id (a + off)) none | none => .bad 73)
  | .ptrR id i w c => (match o with | some off => K (.ptrR id i w (c + off)) none | none => .bad 73)
  | _ => .bad 73
def lFA (T : Nat) (x : Operand) (f : Nat) : LzS := fun ev _ K => lFA1 (faOff T f) T f (ev x) K
def iaSl (s : Nat) (v vi : AV) (K : AV → Option Nat → Out RU) : Out RU := match v, vi.num with
  | .sl _ id st w len _, some (_, i, _) => bif Nat.beq w s then .needd (0 ≤ i ∧ i < (len : Int)) (K (.ptrR id (st + i.toNat) w 0) none) else .bad 30
  | _, _ => .bad 31
def lIA (T : Nat) (x ix : Operand) : LzS := fun ev _ K => match ev x with
  | .rs o len _ => pindex tabQ T o len (ev ix) K
  | v => (match sliceOf tabQ T with | some q => iaSl q.2 v (ev ix) K | none => evalIndexAddr tabQ T v (ev ix) fun v => K v none)
def ld2 (T : Nat) (p : AV) (id : Nat) (h : Heap RU) (K : AV → Option Nat → Out RU) : Out RU := match tabQ T with
  | some R => (match getH h id with | some B => readAt R B p fun v => K v (some id) | none => .bad 62)
  | none => .bad 63
def lLoad (T : Nat) (x : Operand) : LzS := fun ev h K => match ev x with
  | .rp o => pload tabQ T o h K
  | .ptr id a => ld2 T (.ptr id a) id h K
  | .ptrR id i w c => ld2 T (.ptrR id i w c) id h K
  | .mp id => ld2 T (.mp id) id h K
  | _ => .bad 63
def lExtract (x : Operand) (i : Nat) : LzS := fun ev _ K => match ev x with | .tup vs => onOpt vs[i]? 71 K | _ => .bad 72
def lField (T : Nat) (x : Operand) (f : Nat) : LzS := fun ev _ K => onOpt (evalField tabQ T f (ev x)) 69 K
def lConv (s d : Nat) (x : Operand) : LzS := fun ev _ K => onOpt (evalConv tabQ s d (ev x)) 68 K
def lUn (o : UnOp) (x : Operand) : LzS := fun ev _ K => onOpt (evalUn o (ev x)) 67 K
def lIdx (T : Nat) (x ix : Operand) : LzS := fun ev _ K => evalIndexS tabQ T (ev x) (ev ix) fun v => K v none
def lSlice (T : Nat) (x : Operand) (lo hi mx : Option Operand) : LzS := fun ev h K => match ev x with
  | .rs o len cap => lAny (.slice T x lo hi mx) ev h K
  | v => evalSlice tabQ T v (lo.map ev) (hi.map ev) (mx.map ev) fun v => K v none
def lMkF (fn : Fn) (fs cs : Array Operand) : LzS := fun ev _ K => match fn with | .func f => K (.fn f (fs.toList.map ev) (cs.toList.map ev)) none | _ => .bad 74
def lMkI (T : Nat) (x : Operand) : LzS := fun ev _ K => match tabQ T with
  | some R => (match R.kind with | .iface => .bad 75 | .other => .bad 75 | _ => K (.ifc T (ev x)) none)
  | none => .bad 76
def lBuild (T : Nat) (ps : Array (Nat × Operand)) : LzS := fun ev _ K => match tabQ T with
    | some R => (match R.kind with
      | .struct fs => bif (ps.toList.all fun q => (ev q.2).plain) then (match fillAV (fun i => match fs[i]? with | some (off, ft) => (match tabQ ft with | some F => some (off, F.size) | none => none) | none => none) R.zero (ps.toList.map fun q => (q.1, ev q.2)) with | some cs => bif fs.all (fun q => (tabQ q.2).isSome) then K (.agg cs) none else .bad 77 | none => .bad 77) else .bad 78
      | .array _ e => (match tabQ e with
        | some E => bif (ps.toList.all fun q => (ev q.2).plain) then (match fillAV (fun i => some (i * E.size, E.size)) R.zero (ps.toList.map fun q => (q.1, ev q.2)) with | some cs => K (.agg cs) none | none => .bad 77) else .bad 78
        | none => .bad 77)
      | _ => .bad 79)
    | none => .bad 80
def lLook (T : Nat) (m k : Operand) (ok : Bool) : LzS := fun ev h K => match ev m with
    | .mp id => (match getH h id with | some B => evalLookup tabQ kindsQ T B (ev k) ok fun v => K v (some id) | none => .bad 81)
    | _ => .bad 82
def lLen1 (T : Nat) (v : AV) (h : Heap RU) (K : AV → Option Nat → Out RU) : Out RU := match v with
  | .rs o len cap => (match sliceOf tabQ T with | some _ => K (.int .i64 (len : Int)) none | none => onOpt (evalLen tabQ T (.rs o len cap)) 85 K)
  | .mp id => (match getH h id, tabQ T with
        | some (.mp _ _ m), some R => (match R.kind with | .map _ _ => K (.int .i64 (m.length : Int)) (some id) | _ => .bad 83)
        | _, _ => .bad 84)
  | v => onOpt (evalLen tabQ T v) 85 K
def lLen (T : Nat) (x : Operand) : LzS := fun ev h K => lLen1 T (ev x) h K
def lMin (x y : Operand) : LzS := fun ev _ K => onOpt (evalMin2 (ev x) (ev y)) 86 K
def lMax (x y : Operand) : LzS := fun ev _ K => onOpt (evalMax2 (ev x) (ev y)) 87 K
structure BoxL where
  run : LzS
def lzC (c : Go.Call) : BoxL := match c.callee, c.args.toList, c.argTypes[0]? with
  | .builtin .len, [x], some T => ⟨lLen T x⟩
  | .builtin .min, [x, y], _ => ⟨lMin x y⟩
  | .builtin .max, [x, y], _ => ⟨lMax x y⟩
  | _, _, _ => ⟨lAny (.call c)⟩
def lzB (b : BinOp) (T : Nat) (x y : Operand) (yt : Nat) : BoxL := match b with
  | .eql => ⟨lEq false T x y yt⟩
  | .neq => ⟨lEq true T x y yt⟩
  | b => ⟨lBin b x y⟩
def boxL (op : Op) : BoxL := match op with
  | .move x => ⟨lMove x⟩
  | .assign x => ⟨lMove x⟩
  | .nilCheck x => ⟨lNil x⟩
  | .binOp b T x y yt => lzB b T x y yt
  | .unOp o _ x => ⟨lUn o x⟩
  | .convert s d x => ⟨lConv s d x⟩
  | .field T x f => ⟨lField T x f⟩
  | .index T x ix => ⟨lIdx T x ix⟩
  | .extract x i => ⟨lExtract x i⟩
  | .fieldAddr T x f => ⟨lFA T x f⟩
  | .indexAddr T x ix => ⟨lIA T x ix⟩
  | .slice T x lo hi mx => ⟨lSlice T x lo hi mx⟩
  | .load T x => ⟨lLoad T x⟩
  | .makeFunc fn fs cs => ⟨lMkF fn fs cs⟩
  | .makeInterface T x => ⟨lMkI T x⟩
  | .build T ps => ⟨lBuild T ps⟩
  | .lookup T m k ok => ⟨lLook T m k ok⟩
  | .call c => lzC c
  | op => ⟨lAny op⟩
def lzF (op : Op) : LzS := (boxL op).run
theorem lzF_eq (op : Op) (ev : Operand → AV) (h : Heap RU) (K : AV → Option Nat → Out RU) : lzF op ev h K = evalL tabQ kindsQ op ev h K := by
  cases op
  case binOp b T x y yt =>
    cases b
    case eql =>
      show lEq false T x y yt ev h K = _
      unfold lEq lAny
      simp only [evalL, evalL0]
      generalize ev x = a
      generalize ev y = b
      cases a <;> try rfl
      all_goals cases b <;> first | rfl | (simp [evalEq, AV.num, bCmp, evalBin])
    case neq =>
      show lEq true T x y yt ev h K = _
      unfold lEq lAny
      simp only [evalL, evalL0]
      generalize ev x = a
      generalize ev y = b
      cases a <;> try rfl
      all_goals cases b <;> first | rfl | (simp [evalEq, AV.num, bCmp, evalBin])
    all_goals
      simp only [lzF, boxL, lzB, lBin, evalL, evalL0, binF_eq]
  case nilCheck x =>
    show lNil1 (ev x) K = _
    simp only [evalL, evalL0]
    generalize ev x = a
    cases a <;> rfl
  case fieldAddr T x f =>
    show lFA1 (faOff T f) T f (ev x) K = _
    simp only [evalL, evalL0, evalFieldAddr, faOff]
    generalize ev x = a
    cases hs : structOf tabQ T f with
    | none => cases a <;> rfl
    | some q =>
      obtain ⟨off, ft⟩ := q
      simp only
      cases hR : tabQ ft with
      | none => cases a <;> rfl
      | some R =>
        simp only
        cases hz : Nat.beq R.size 0 <;> cases a <;> rfl
  case indexAddr T x ix =>
    show (match ev x with | .rs o len _ => _ | v => _) = _
    simp only [evalL, evalL0, evalIndexAddr]
    generalize ev x = a
    cases hs : sliceOf tabQ T with
    | none => cases a <;> rfl
    | some q =>
      simp only [iaSl]
      cases a <;> first | rfl | (cases hn : (ev ix).num <;> rfl)
  case load T x =>
    show (match ev x with | .rp o => _ | .ptr id a => _ | .ptrR id i w c => _ | .mp id => _ | _ => _) = _
    simp only [evalL, evalL0, ld2, getH_eq, evalLoad]
    generalize ev x = a
    cases hR : tabQ T <;> cases a <;> first | rfl | (simp only [AV.id?]; cases Heap.get h _ <;> rfl)
  case extract x i =>
    show (match ev x with | .tup vs => _ | _ => _) = _
    simp only [evalL, evalL0]
    cases ev x <;> rfl
  case slice T x lo hi mx =>
    show (match ev x with | .rs o len cap => _ | v => _) = _
    simp only [lAny, evalL, evalL0]
    generalize ev x = a
    cases a <;> first | rfl | (cases lo <;> cases hi <;> cases mx <;> rfl)
  case makeFunc fn fs cs => rfl
  case makeInterface T x => rfl
  case build T ps => rfl
  case lookup T m k ok =>
    show (match ev m with | .mp id => _ | _ => _) = _
    simp only [evalL, evalL0, getH_eq]
    cases ev m <;> first | rfl | (simp only []; cases Heap.get h _ <;> rfl)
  case call c =>
    show (lzC c).run ev h K = _
    obtain ⟨callee, args, argTypes⟩ := c
    simp only [lzC]
    generalize hq : (match callee, args.toList, argTypes[0]? with
      | .builtin .len, [x], some T => ⟨lLen T x⟩
      | .builtin .min, [x, y], _ => ⟨lMin x y⟩
      | .builtin .max, [x, y], _ => ⟨lMax x y⟩
      | _, _, _ => ⟨lAny (.call ⟨callee, args, argTypes⟩)⟩ : BoxL) = q
    split at hq
    · rename_i x T ha ht
      subst hq
      show lLen1 T (ev x) h K = _
      simp only [evalL, evalL0, lLen1, getH_eq, ha, ht]
      generalize ev x = a
      cases hs : sliceOf tabQ T <;> cases a <;> first
        | rfl
        | (simp only []
           rcases Heap.get h _ with _ | B
           · rfl
           · cases B <;> rcases tabQ T with _ | R <;> first | rfl | (simp only []; cases R.kind <;> rfl))
    · rename_i x y ha
      subst hq
      show lMin x y ev h K = _
      cases ht : argTypes[0]? <;> simp only [evalL, evalL0, lMin, ha, ht]
    · rename_i x y ha
      subst hq
      show lMax x y ev h K = _
      cases ht : argTypes[0]? <;> simp only [evalL, evalL0, lMax, ha, ht]
    · subst hq; rfl
  all_goals rfl

/-! ## what writes -/
abbrev EfS := (Operand → AV) → Heap RU → Nat → (AV → Heap RU → List Nat → Out RU) → Out RU
def eAny (op : Op) : EfS := fun ev h nw K => evalE tabQ kindsQ op ev h nw K
def eAlloc (T : Nat) : EfS := match tabQ T with
  | some R => cond R.pool (eAny (.alloc T)) (fun _ h nw K => K (.ptr nw 0) ((nw, .cells T R.zero) :: h) [nw])
  | none => eAny (.alloc T)
def eBox (T : Nat) (x : Operand) : EfS := match tabQ T with
  | some R => cond R.pool (eAny (.box T x)) (fun ev h nw K => bif (ev x).plain then K (.ptr nw 0) ((nw, .cells T (cellsAV (ev x))) :: h) [nw] else .bad 131)
  | none => eAny (.box T x)
def st2 (T : Nat) (p : AV) (id : Nat) (v : AV) (h : Heap RU) (K : AV → Heap RU → List Nat → Out RU) : Out RU := match tabQ T with
  | some R => (match getH h id with | some B => writeAt R B p v fun B' => K .und (Heap.set h id B') [id] | none => .bad 139)
  | none => .bad 140
def eStore (T : Nat) (p x : Operand) : EfS := fun ev h nw K => match ev p with
  | .rp o => eAny (.store T p x) ev h nw K
  | .ptr id a => st2 T (.ptr id a) id (ev x) h K
  | .ptrR id i w c => st2 T (.ptrR id i w c) id (ev x) h K
  | .mp id => st2 T (.mp id) id (ev x) h K
  | _ => .bad 140
structure BoxE where
  run : EfS
def boxE (op : Op) : BoxE := match op with
  | .alloc T => ⟨eAlloc T⟩
  | .box T x => ⟨eBox T x⟩
  | .store T p x => ⟨eStore T p x⟩
  | op => ⟨eAny op⟩
def eF (op : Op) : EfS := (boxE op).run
theorem evalE0_quick (op : Op) (ev : Operand → AV) (h : Heap RU) (nw : Nat) (K : AV → Heap RU → List Nat → Out RU) : evalE0 tabQ kindsQ op ev h nw K = evalE1 tabQ kindsQ op ev h nw [nw] K := by
  unfold evalE0; rw [quickQ]; rfl
theorem eF_eq (op : Op) (ev : Operand → AV) (h : Heap RU) (nw : Nat) (K : AV → Heap RU → List Nat → Out RU) : eF op ev h nw K = evalE tabQ kindsQ op ev h nw K := by
  cases op <;> try rfl
  case alloc T =>
    show eAlloc T ev h nw K = _
    unfold eAlloc
    cases hR : tabQ T with
    | none => rfl
    | some R =>
      simp only [evalE, hR, evalE0_quick, evalE1]
      cases hp : R.pool
      · rfl
      · simp only [cond_true, eAny, evalE, hR, hp]
  case box T x =>
    show eBox T x ev h nw K = _
    unfold eBox
    cases hR : tabQ T with
    | none => rfl
    | some R =>
      simp only [evalE, hR, evalE0_quick, evalE1]
      cases hp : R.pool
      · rfl
      · simp only [cond_true, eAny, evalE, hR, hp]
  case store T q x =>
    show (match ev q with | .rp o => _ | .ptr id a => _ | .ptrR id i w c => _ | .mp id => _ | _ => _) = _
    simp only [eAny, evalE, evalE0_quick, evalE1, st2, getH_eq]
    generalize ev q = a
    cases hR : tabQ T <;> cases a <;> first | rfl | (simp only [AV.id?]; cases Heap.get h _ <;> rfl)
abbrev StepS := CallF RU → List (Nat × AV) → Heap RU → Nat → (AV → Heap RU → Nat → List Nat → Option Nat → Out RU) → Out RU
def sLz (op : Op) : StepS := fun _ env h nx K => lzF op (evF env) h (fun v rd => K v h nx [] rd)
def sEf (op : Op) : StepS := fun _ env h nx K => eF op (evF env) h nx (fun v h' T => K v h' (nx + 1) T none)
def sVal (f : Operand) (args : List Operand) : StepS := fun C env h nx K => match evF env f with
  | .fn g fs cs => C g (fs ++ args.map (evF env) ++ cs) h nx (fun v h' nx' T => K v h' nx' T none)
  | _ => .bad 200
def sInv (recv : Operand) (m : String) (args : List Operand) : StepS := fun C env h nx K => match evF env recv with
  | .ifc T x => (match methOf tabQ T m with
    | some g => C g (x :: args.map (evF env)) h nx (fun v h' nx' T => K v h' nx' T none)
    | none => .bad 201)
  | _ => .bad 202
structure BoxS where
  run : StepS
def stepC (c : Go.Call) : BoxS := match c.callee with
  | .value f => ⟨sVal f c.args.toList⟩
  | .invoke recv m => ⟨sInv recv m c.args.toList⟩
  | _ => ⟨sEf (.call c)⟩
def boxS (op : Op) : BoxS := cond (isLz op) ⟨sLz op⟩ (match op with
  | .call c => stepC c
  | op => ⟨sEf op⟩)
def stepF (op : Op) : StepS := (boxS op).run
theorem stepF_eq (op : Op) (C : CallF RU) (env : List (Nat × AV)) (h : Heap RU) (nx : Nat) (K : AV → Heap RU → Nat → List Nat → Option Nat → Out RU) : stepF op C env h nx K = stepAny tabQ kindsQ C op env h nx K := by
  unfold stepF boxS stepAny
  cases hl : isLz op with
  | true => simp only [cond_true]; show lzF op (evF env) h _ = _; rw [lzF_eq, evF_eq]
  | false =>
    simp only [cond_false]
    cases op
    case call c =>
      obtain ⟨callee, args, ts⟩ := c
      cases callee
      case value f =>
        show (match evF env f with | .fn g fs cs => _ | _ => _) = _
        simp only [evF_eq]
        cases evO env f <;> rfl
      case invoke recv m =>
        show (match evF env recv with | .ifc T x => _ | _ => _) = _
        simp only [evF_eq]
        cases evO env recv <;> first | rfl | (simp only []; cases methOf tabQ _ m <;> rfl)
      all_goals (simp only [stepC, sEf, eF_eq, evF_eq])
    all_goals (simp only [sEf, eF_eq, evF_eq])

/-! ## regions -/
theorem recB (f t : Out RU) (b : Bool) : @Bool.rec (fun _ => Out RU) f t b = bif b then t else f := by cases b <;> rfl
/-- One step of a region whose order is told beforehand. -/
structure PIt where
  lz : Bool
  n : Nat
  done : List Nat
  o : Oper
  i : Nat
  hold : Option Oper
def planF (ops : Array Oper) : Nat → List Nat → Option (List PIt)
  | 0, _ => none
  | n + 1, done => match firstLazy ops done ops.toList.zipIdx with
    | some (o, i) => (match planF ops n (i :: done) with | some l => some (⟨true, n, done, o, i, none⟩ :: l) | none => none)
    | none => (match readyAll done ops.toList.zipIdx with
      | [] => bif Nat.beq done.length ops.size then some [] else none
      | [q] => (match planF ops n (q.2 :: done) with | some l => some (⟨false, n, done, q.1, q.2, none⟩ :: l) | none => none)
      | q0 :: q1 :: qs => (match firstFl tabQ ops ops.toList.zipIdx with
        | none => none
        | some f => (match ops[f]?, (q0 :: q1 :: qs).filter (notFl f) with
          | some of, [q] => (match planF ops n (q.2 :: done) with | some l => some (⟨false, n, done, q.1, q.2, some of⟩ :: l) | none => none)
          | _, _ => none)))
abbrev Rest := List (Nat × AV) → Heap RU → Nat → List Nat → List (Nat × Nat) → Out RU
def xLz (ops : Array Oper) (it : PIt) (C : CallF RU) (fz : Bool) (K : RS RU → Out RU) (ih : Rest) : Rest := fun env heap nx tl rds =>
  wantK ops env it.o (lzF it.o.op (evF env) heap (fun v rd => ih (putF env it.o.dst v) heap nx tl (putRd it.i rd rds)))
    (ih (putF env it.o.dst (.raw undef)) heap nx tl rds) (.bad 222)
    (fun d b => .ite b (exploreD tabQ kindsQ C ops fz it.n it.done ((d, .tt) :: env) heap nx tl rds K) (exploreD tabQ kindsQ C ops fz it.n it.done ((d, .ff) :: env) heap nx tl rds K))
def xEf (ops : Array Oper) (it : PIt) (C : CallF RU) (fz : Bool) (K : RS RU → Out RU) (ih : Rest) : Rest := fun env heap nx tl rds =>
  @Bool.rec (fun _ => Out RU) (wantK ops env it.o (@Bool.rec (fun _ => Out RU) (.bad 225) (stepF it.o.op C env heap nx (fun v h' nx' T _ => @Bool.rec (fun _ => Out RU) (.bad 224) (ih (putF env it.o.dst v) h' nx' (T ++ tl) rds) (stableF ops it.i T rds))) (eagerB ops it.i it.o))
    (@Bool.rec (fun _ => Out RU) (.bad 226) (ih (putF env it.o.dst (.raw undef)) heap nx tl rds) (eagerB ops it.i it.o)) (.bad 227)
    (fun d b => .ite b (exploreD tabQ kindsQ C ops fz it.n it.done ((d, .tt) :: env) heap nx tl rds K) (exploreD tabQ kindsQ C ops fz it.n it.done ((d, .ff) :: env) heap nx tl rds K))) (.bad 228) (@Bool.rec (fun _ => Bool) false (@Bool.rec (fun _ => Bool) false (@Bool.rec (fun _ => Bool) true false (noRoF heap)) fz) (isFl tabQ ops it.i))
def xHo (of : Oper) (ops : Array Oper) (it : PIt) (C : CallF RU) (fz : Bool) (K : RS RU → Out RU) (ih : Rest) : Rest := fun env heap nx tl rds =>
  @Bool.rec (fun _ => Out RU) (exploreD tabQ kindsQ C ops fz (it.n + 1) it.done env heap nx tl rds K) (xEf ops it C fz K ih env heap nx tl rds) (fz && mkOk tabQ kindsQ of.op (evF env))
structure BoxX where
  run : CallF RU → Bool → (RS RU → Out RU) → Rest → Rest
def boxX (ops : Array Oper) (it : PIt) : BoxX := cond it.lz ⟨xLz ops it⟩ (match it.hold with | none => ⟨xEf ops it⟩ | some of => ⟨xHo of ops it⟩)
def xIt (C : CallF RU) (ops : Array Oper) (fz : Bool) (K : RS RU → Out RU) (it : PIt) (ih : Rest) : Rest := (boxX ops it).run C fz K ih
abbrev Rest4 := List (Nat × AV) → Heap RU → Nat → List Nat → Out RU
def exec (C : CallF RU) (ops : Array Oper) (fz : Bool) (K : RS RU → Out RU) (K4 : Rest4) (l : List PIt) : Rest :=
  @List.rec PIt (fun _ => Rest) (fun env heap nx tl _ => K4 env heap nx tl) (fun it _ ih => xIt C ops fz K it ih) l

theorem hold_one {fz : Bool} {env : List (Nat × AV)} {ops : Array Oper} (q : Oper × Nat) : hold tabQ kindsQ ops fz env [q] = [q] := rfl
theorem exec_eq (C : CallF RU) (ops : Array Oper) (fz : Bool) (K : RS RU → Out RU) (K4 : Rest4) (hK : ∀ e h n t d r, K ⟨e, h, n, t, d, r⟩ = K4 e h n t) : ∀ (n : Nat) (done : List Nat) (l : List PIt), planF ops n done = some l →
    ∀ env heap nx tl rds, exec C ops fz K K4 l env heap nx tl rds = exploreD tabQ kindsQ C ops fz n done env heap nx tl rds K := by
  intro n
  induction n with
  | zero => intro done l h; cases h
  | succ n ih =>
    intro done l h env heap nx tl rds
    have lzstep : ∀ (o : Oper) (i : Nat) (l' : List PIt), planF ops n (i :: done) = some l' → firstLazy ops done ops.toList.zipIdx = some (o, i) →
        exec C ops fz K K4 (⟨true, n, done, o, i, none⟩ :: l') env heap nx tl rds = exploreD tabQ kindsQ C ops fz (n + 1) done env heap nx tl rds K := by
      intro o i l' hp hf
      show xLz ops ⟨true, n, done, o, i, none⟩ C fz K (exec C ops fz K K4 l') env heap nx tl rds = _
      unfold xLz
      rw [wantK_eq, exploreD, hf]
      simp only [putF_eq]
      have e : exec C ops fz K K4 l' = fun env heap nx tl rds => exploreD tabQ kindsQ C ops fz n (i :: done) env heap nx tl rds K := by
        funext env heap nx tl rds; exact ih _ _ hp env heap nx tl rds
      rw [e, lzF_eq, evF_eq]
      cases want? ops env o <;> rfl
    have efstep : ∀ (q : Oper × Nat) (ho : Option Oper) (l' : List PIt), planF ops n (q.2 :: done) = some l' →
        xEf ops ⟨false, n, done, q.1, q.2, ho⟩ C fz K (exec C ops fz K K4 l') env heap nx tl rds = bothAll ([q].map fun q => (bif isFl tabQ ops q.2 && fz && !(noRo heap) then .bad 228 else match want? ops env q.1 with
        | .yes => bif eagerB ops q.2 q.1 then stepAny tabQ kindsQ C q.1.op env heap nx (fun v h' nx' T _ => bif stable ops q.2 T rds then exploreD tabQ kindsQ C ops fz n (q.2 :: done) (envPut env q.1.dst v) h' nx' (T ++ tl) rds K else .bad 224) else .bad 225
        | .no => bif eagerB ops q.2 q.1 then exploreD tabQ kindsQ C ops fz n (q.2 :: done) (envPut env q.1.dst (.raw undef)) heap nx tl rds K else .bad 226
        | .ask d b => .ite b (exploreD tabQ kindsQ C ops fz n done ((d, .tt) :: env) heap nx tl rds K) (exploreD tabQ kindsQ C ops fz n done ((d, .ff) :: env) heap nx tl rds K)
        | .bad => .bad 227)) := by
      intro q ho l' hp
      unfold xEf
      have e : exec C ops fz K K4 l' = fun env heap nx tl rds => exploreD tabQ kindsQ C ops fz n (q.2 :: done) env heap nx tl rds K := by
        funext env heap nx tl rds; exact ih _ _ hp env heap nx tl rds
      rw [e]
      simp only [List.map_cons, List.map_nil, bothAll, stepF_eq, wantK_eq, putF_eq, recB, stableF_eq, noRoF_eq]
      rw [show (@Bool.rec (fun _ => Bool) false (@Bool.rec (fun _ => Bool) false (@Bool.rec (fun _ => Bool) true false (noRo heap)) fz) (isFl tabQ ops q.2)) = (isFl tabQ ops q.2 && fz && !(noRo heap)) by cases isFl tabQ ops q.2 <;> cases fz <;> cases noRo heap <;> rfl]
    rw [planF] at h
    split at h
    · rename_i o i hf
      split at h
      · rename_i l' hp
        cases h
        exact lzstep o i l' hp hf
      · cases h
    · rename_i hf
      split at h
      · rename_i hr
        cases hb : Nat.beq done.length ops.size with
        | false => rw [hb] at h; cases h
        | true =>
          rw [hb] at h; cases h
          rw [exploreD, hf]
          simp only [hr, show hold tabQ kindsQ ops fz env [] = [] from rfl, hb, cond_true]
          exact (hK _ _ _ _ _ _).symm
      · rename_i q hr
        split at h
        · rename_i l' hp
          cases h
          rw [exploreD, hf]
          simp only [hr, hold_one]
          exact efstep q none l' hp
        · cases h
      · rename_i q0 q1 qs hr
        split at h
        · cases h
        · rename_i f hff
          split at h
          · rename_i of q hof hq
            split at h
            · rename_i l' hp
              cases h
              show xHo of ops ⟨false, n, done, q.1, q.2, some of⟩ C fz K (exec C ops fz K K4 l') env heap nx tl rds = _
              unfold xHo
              rw [evF_eq]
              cases hc : (fz && mkOk tabQ kindsQ of.op (evO env)) with
              | false => rfl
              | true =>
                show xEf ops ⟨false, n, done, q.1, q.2, some of⟩ C fz K (exec C ops fz K K4 l') env heap nx tl rds = _
                rw [efstep q (some of) l' hp, exploreD, hf]
                have hh : hold tabQ kindsQ ops fz env (q0 :: q1 :: qs) = [q] := by
                  unfold hold
                  have : Nat.ble (q0 :: q1 :: qs).length 1 = false := rfl
                  rw [this]
                  simp only [cond_false, hff, hof, hc, cond_true, hq]
                  rfl
                simp only [hr]
                rw [hh]
                rfl
            · cases h
          · cases h

def sIt (C : CallF RU) (ops : Array Oper) (nt : Nat) (K : St RU → Out RU) (o : Oper) (rest : List Oper) (ih : Rest4) : Rest4 := fun env heap nx tl =>
  wantK ops env o (stepF o.op C env heap nx (fun v h' nx' T _ => ih (putF env o.dst v) h' nx' (T ++ tl)))
    (ih (putF env o.dst (.raw undef)) heap nx tl) (.bad 211)
    (fun _ _ => seqOps tabQ kindsQ C ops (o :: rest) ⟨env, heap, nx, nt, tl⟩ K)
def seqF (C : CallF RU) (ops : Array Oper) (nt : Nat) (K : St RU → Out RU) (K4 : Rest4) (l : List Oper) : Rest4 :=
  @List.rec Oper (fun _ => Rest4) K4 (fun o rest ih => sIt C ops nt K o rest ih) l
theorem seqF_eq (C : CallF RU) (ops : Array Oper) (nt : Nat) (K : St RU → Out RU) (K4 : Rest4) (hK : ∀ e h n t, K ⟨e, h, n, nt, t⟩ = K4 e h n t) : ∀ (l : List Oper) env heap nx tl, seqF C ops nt K K4 l env heap nx tl = seqOps tabQ kindsQ C ops l ⟨env, heap, nx, nt, tl⟩ K
  | [], env, heap, nx, tl => (hK _ _ _ _).symm
  | o :: rest, env, heap, nx, tl => by
    show sIt C ops nt K o rest (seqF C ops nt K K4 rest) env heap nx tl = _
    have e : seqF C ops nt K K4 rest = fun env heap nx tl => seqOps tabQ kindsQ C ops rest ⟨env, heap, nx, nt, tl⟩ K := by
      funext env heap nx tl; exact seqF_eq C ops nt K K4 hK rest env heap nx tl
    unfold sIt
    rw [e, seqOps]
    simp only [stepF_eq, wantK_eq, putF_eq]
    cases want? ops env o <;> rfl

/-! ## code -/
section
variable {P : Program}
abbrev RunS := Nat → Code → St RU → (EX → St RU → Out RU) → Out RU
abbrev KonS := EX → St RU → Out RU
def forceNat (n : Nat) (F : Nat → Out RU) : Out RU := @Nat.rec (fun _ => Out RU) (F 0) (fun m _ => F (m + 1)) n
theorem forceNat_eq (n : Nat) (F : Nat → Out RU) : forceNat n F = F n := by cases n <;> rfl
def cfgQ (P : Program) (fns : Nat → Option Func) (hooks : Nat → Option (HookS RU)) (loops : Nat → Nat → Option (LoopS RU)) : Cfg P RU := ⟨tabQ, kindsQ, fns, hooks, loops⟩
structure BoxR where
  run : St RU → (AV → Out RU) → Out RU
def boxR (l : List ResultVar) (fn : Func) : BoxR := match l with
  | [.tmp t] => ⟨fun s K => K (getF s.env t)⟩
  | [] => ⟨fun s K => K (.tup [])⟩
  | [.tmp t, .tmp u] => ⟨fun s K => K (.tup [getF s.env t, getF s.env u])⟩
  | _ => ⟨fun s K => resAll tabQ fn s K⟩
def resF (fn : Func) (s : St RU) (K : AV → Out RU) : Out RU := (boxR fn.results.toList fn).run s K
theorem resF_eq (fn : Func) (s : St RU) (K : AV → Out RU) : resF fn s K = resAll tabQ fn s K := by
  unfold resF boxR
  split
  · rename_i t h; simp only [resAll, h, resList, resOne, getF_eq]
  · rename_i h; simp only [resAll, h, resList]
  · rename_i t u h; simp only [resAll, h, resList, resOne, getF_eq]
  · rfl
def retK (fn : Func) (k : AV → Heap RU → Nat → List Nat → Out RU) : KonS := fun e s' => @EX.rec (fun _ => Out RU) (resF fn s' fun v => k v s'.heap s'.nx s'.tl) (resF fn s' fun v => k v s'.heap s'.nx s'.tl) (fun _ => .bad 301) e
def callQ (fns : Nat → Option Func) (hooks : Nat → Option (HookS RU)) (ih : RunS) : CallF RU := fun g args h nx k => match hooks g with
  | some H => H args h nx k
  | none => (match fns g with
    | some fn => (match fn.body with
      | some body => bif Nat.ble args.length fn.ntmps then ih g body ⟨argsEnv 0 args, h, nx, fn.ntmps, []⟩ (retK fn k) else .bad 302
      | none => .bad 303)
    | none => .bad 304)
def kDrawn (C : CallF RU) (ops : Array Oper) (s : St RU) (K : KonS) : Out RU := forceNat s.nt fun nt =>
  bif regOk nt ops then (match planF ops (ops.size + ops.size + 2) [] with
    | some l => exec C ops (noRoF s.heap) (fun x => K .nx ⟨x.env, x.heap, x.nx, nt, x.tl⟩) (fun env heap nx tl => K .nx ⟨env, heap, nx, nt, tl⟩) l s.env s.heap s.nx s.tl []
    | none => exploreD tabQ kindsQ C ops (noRo s.heap) (ops.size + ops.size + 2) [] s.env s.heap s.nx s.tl [] (fun x => K .nx ⟨x.env, x.heap, x.nx, nt, x.tl⟩)) else .bad 305
def kSeqR (C : CallF RU) (ops : Array Oper) (s : St RU) (K : KonS) : Out RU := forceNat s.nt fun nt =>
  bif dstsOk nt ops then seqF C ops nt (K .nx) (fun env heap nx tl => K .nx ⟨env, heap, nx, nt, tl⟩) ops.toList s.env s.heap s.nx s.tl else .bad 306
def kReg (P : Program) (fns : Nat → Option Func) (hooks : Nat → Option (HookS RU)) (loops : Nat → Nat → Option (LoopS RU)) (ih : RunS) (f id : Nat) (ops : Array Oper) (draw : Bool) (s : St RU) (K : KonS) : Out RU := match loops f (1000000 + id) with
  | some L => .need (RegFor P f id (.region id ops draw) L) (L s K)
  | none => cond draw (kDrawn (callQ fns hooks ih) ops s K) (kSeqR (callQ fns hooks ih) ops s K)
def kCond (ih : RunS) (f : Nat) (c : Operand) (t e : Code) (s : St RU) (K : KonS) : Out RU := match evF s.env c with
  | .tt => ih f t s K
  | .ff => ih f e s K
  | .bool b => .ite b (ih f t s K) (ih f e s K)
  | .may neg b => .maybe b (ih f (bif neg then e else t) s K) (ih f (bif neg then t else e) s K)
  | _ => .bad 307
def seqK (ih : RunS) (f : Nat) (b : Code) (K : KonS) : KonS := fun e s' => @EX.rec (fun _ => Out RU) (ih f b s' K) (K .rt s') (fun id => K (.ex id) s') e
def blkK (id : Nat) (K : KonS) : KonS := fun e s' => match e with
  | .nx => K .nx s'
  | .rt => K .rt s'
  | .ex j => bif Nat.beq j id then K .nx s' else K (.ex j) s'
def loopK (ih : RunS) (f : Nat) (body : Code) (s : St RU) (K : KonS) : KonS := fun e s' => match e with
  | .nx => ih f (.loop body) ⟨backF s.env s'.env, s'.heap, s'.nx, s'.nt, s'.tl⟩ K
  | .rt => K .rt s'
  | .ex j => K (.ex j) s'
def kBlock (P : Program) (loops : Nat → Nat → Option (LoopS RU)) (ih : RunS) (f id : Nat) (body : Code) (s : St RU) (K : KonS) : Out RU := match loops f id, body with
  | some L, .loop lb => .need (LoopFor P f id lb L) (L s K)
  | _, body => ih f body s (blkK id K)
structure BoxC where
  run : RunS → Nat → St RU → KonS → Out RU
def boxC (P : Program) (fns : Nat → Option Func) (hooks : Nat → Option (HookS RU)) (loops : Nat → Nat → Option (LoopS RU)) (c : Code) : BoxC := match c with
  | .skip => ⟨fun _ _ s K => K .nx s⟩
  | .region id ops draw => ⟨fun ih f s K => kReg P fns hooks loops ih f id ops draw s K⟩
  | .seq a b => ⟨fun ih f s K => ih f a s (seqK ih f b K)⟩
  | .cond c t e => ⟨fun ih f s K => kCond ih f c t e s K⟩
  | .block id body => ⟨fun ih f s K => kBlock P loops ih f id body s K⟩
  | .loop body => ⟨fun ih f s K => ih f body s (loopK ih f body s K)⟩
  | .exit id => ⟨fun _ _ s K => K (.ex id) s⟩
  | .ret => ⟨fun _ _ s K => K .rt s⟩
  | .label _ => ⟨fun _ _ s K => K .nx s⟩
  | _ => ⟨fun _ _ _ _ => .bad 308⟩
def codeStep (P : Program) (fns : Nat → Option Func) (hooks : Nat → Option (HookS RU)) (loops : Nat → Nat → Option (LoopS RU)) (ih : RunS) : RunS := fun f c s K => (boxC P fns hooks loops c).run ih f s K
def fastCode (P : Program) (fns : Nat → Option Func) (hooks : Nat → Option (HookS RU)) (loops : Nat → Nat → Option (LoopS RU)) (n : Nat) : RunS :=
  @Nat.rec (fun _ => RunS) (fun _ _ _ _ => .bad 300) (fun _ ih => codeStep P fns hooks loops ih) n
theorem fast_eq (fns : Nat → Option Func) (hooks : Nat → Option (HookS RU)) (loops : Nat → Nat → Option (LoopS RU)) : ∀ n, fastCode P fns hooks loops n = runCode (cfgQ P fns hooks loops) n
  | 0 => by funext f c s K; simp only [runCode]; rfl
  | n + 1 => by
    funext f c s K
    show codeStep P fns hooks loops (fastCode P fns hooks loops n) f c s K = _
    rw [fast_eq fns hooks loops n]
    cases c
    case region id ops draw =>
      show kReg P fns hooks loops (runCode (cfgQ P fns hooks loops) n) f id ops draw s K = _
      unfold kReg
      simp only [runCode]
      rw [show (cfgQ P fns hooks loops).loops f (1000000 + id) = loops f (1000000 + id) from rfl]
      cases loops f (1000000 + id) with
      | some L => rfl
      | none =>
        simp only
        cases draw with
        | true =>
          simp only [cond_true]
          unfold kDrawn
          rw [forceNat_eq]
          cases regOk s.nt ops with
          | false => rfl
          | true =>
            simp only [cond_true]
            cases hp : planF ops (ops.size + ops.size + 2) [] with
            | none =>
              refine congrArg (fun C => exploreD tabQ kindsQ C ops (noRo s.heap) (ops.size + ops.size + 2) [] s.env s.heap s.nx s.tl [] (fun x => K .nx ⟨x.env, x.heap, x.nx, s.nt, x.tl⟩)) ?_
              funext g args h nx k
              unfold callQ
              rw [show (cfgQ P fns hooks loops).hooks g = hooks g from rfl]
              cases hooks g with
              | some H => rfl
              | none =>
                simp only
                rw [show (cfgQ P fns hooks loops).fns g = fns g from rfl]
                cases fns g with
                | none => rfl
                | some fn =>
                  simp only
                  cases fn.body with
                  | none => rfl
                  | some body =>
                    simp only
                    refine congrArg (fun K => bif Nat.ble args.length fn.ntmps then runCode (cfgQ P fns hooks loops) n g body ⟨argsEnv 0 args, h, nx, fn.ntmps, []⟩ K else .bad 302) ?_
                    funext e s'; cases e <;> first | exact resF_eq _ _ _ | rfl
            | some l =>
              rw [noRoF_eq]
              refine (exec_eq (callQ fns hooks (runCode (cfgQ P fns hooks loops) n)) ops (noRo s.heap) (fun x => K .nx ⟨x.env, x.heap, x.nx, s.nt, x.tl⟩) (fun env heap nx tl => K .nx ⟨env, heap, nx, s.nt, tl⟩) (fun e h n t d r => rfl) _ _ l hp _ _ _ _ _).trans ?_
              refine congrArg (fun C => exploreD tabQ kindsQ C ops (noRo s.heap) (ops.size + ops.size + 2) [] s.env s.heap s.nx s.tl [] (fun x => K .nx ⟨x.env, x.heap, x.nx, s.nt, x.tl⟩)) ?_
              funext g args h nx k
              unfold callQ
              rw [show (cfgQ P fns hooks loops).hooks g = hooks g from rfl]
              cases hooks g with
              | some H => rfl
              | none =>
                simp only
                rw [show (cfgQ P fns hooks loops).fns g = fns g from rfl]
                cases fns g with
                | none => rfl
                | some fn =>
                  simp only
                  cases fn.body with
                  | none => rfl
                  | some body =>
                    simp only
                    refine congrArg (fun K => bif Nat.ble args.length fn.ntmps then runCode (cfgQ P fns hooks loops) n g body ⟨argsEnv 0 args, h, nx, fn.ntmps, []⟩ K else .bad 302) ?_
                    funext e s'; cases e <;> first | exact resF_eq _ _ _ | rfl
        | false =>
          simp only [cond_false]
          unfold kSeqR
          rw [forceNat_eq]
          cases dstsOk s.nt ops with
          | false => rfl
          | true =>
              simp only [cond_true]
              refine (seqF_eq (callQ fns hooks (runCode (cfgQ P fns hooks loops) n)) ops s.nt (K .nx) (fun env heap nx tl => K .nx ⟨env, heap, nx, s.nt, tl⟩) (fun e h n t => rfl) _ _ _ _ _).trans ?_
              refine congrArg (fun C => seqOps tabQ kindsQ C ops ops.toList s (K .nx)) ?_
              funext g args h nx k
              unfold callQ
              rw [show (cfgQ P fns hooks loops).hooks g = hooks g from rfl]
              cases hooks g with
              | some H => rfl
              | none =>
                simp only
                rw [show (cfgQ P fns hooks loops).fns g = fns g from rfl]
                cases fns g with
                | none => rfl
                | some fn =>
                  simp only
                  cases fn.body with
                  | none => rfl
                  | some body =>
                    simp only
                    refine congrArg (fun K => bif Nat.ble args.length fn.ntmps then runCode (cfgQ P fns hooks loops) n g body ⟨argsEnv 0 args, h, nx, fn.ntmps, []⟩ K else .bad 302) ?_
                    funext e s'; cases e <;> first | exact resF_eq _ _ _ | rfl
    case seq a b =>
      show runCode _ n f a s (seqK _ f b K) = _
      simp only [runCode]
      congr 1
      funext e s'; cases e <;> rfl
    case cond c t e =>
      show kCond _ f c t e s K = _
      simp only [runCode, kCond, evF_eq]
      cases evO s.env c <;> rfl
    case block id body =>
      show kBlock P loops _ f id body s K = _
      simp only [runCode, kBlock]
      have hb : blkK id K = (fun e s' => match e with
          | .nx => K .nx s'
          | .rt => K .rt s'
          | .ex j => bif Nat.beq j id then K .nx s' else K (.ex j) s') := by funext e s'; cases e <;> rfl
      rw [hb, show (cfgQ P fns hooks loops).loops f id = loops f id from rfl]
      cases loops f id <;> cases body <;> rfl
    case loop body =>
      show runCode _ n f body s (loopK _ f body s K) = _
      simp only [runCode]
      congr 1
      funext e s'; cases e <;> first | rfl | (show runCode _ n f _ _ _ = _; rw [backF_eq])
    all_goals (simp only [runCode]; rfl)
end
end
end Sx
end Go.Proofs.YtmcmdghmglopnaaGreatDoor

/-
  A closed case, run whole: what it tells is true; handed on as a hook of any universe.
-/
namespace Go.Proofs.YtmcmdghmglopnaaGreatDoor
namespace Sx
open Go

section
variable {U : Uni}
/-- Each choice made, and true told at the end. -/
def Out.goodC : Out U → Prop
  | .fin v _ _ => (match v with | .tt => True | .bool b => b = true | _ => False)
  | .stop _ _ => False
  | .ite b t e => (match b with | true => t.goodC | false => e.goodC)
  | .need _ _ => False
  | @Out.needd _ p _ k => cond (decide p) k.goodC False
  | .same a b k => a = b ∧ k.goodC
  | .asm _ k => k.goodC
  | .all _ f => ∀ x, (f x).goodC
  | .ex _ _ => False
  | .both a b => a.goodC ∧ b.goodC
  | .maybe b t e => (match b with | true => t.goodC ∧ e.goodC | false => e.goodC)
  | .bad _ => False
theorem Out.goodC_holds {M : Goal U} (hM : ∀ (v : AV) h n, (v = .tt ∨ v = .bool true) → M.F v h n) : ∀ (o : Out U), o.goodC → o.holds M
  | .fin v h n, e => by
    apply hM
    cases v <;> first | exact .inl rfl | exact e.elim | (have e : _ = true := e; subst e; exact .inr rfl)
  | .stop _ _, e => e.elim
  | .ite b t k, e => by
    cases b with
    | true => exact And.intro (fun _ => Out.goodC_holds hM t e) (fun h => Bool.noConfusion h)
    | false => exact And.intro (fun h => Bool.noConfusion h) (fun _ => Out.goodC_holds hM k e)
  | .need _ _, e => e.elim
  | @Out.needd _ p _ k, e => by
    have e : cond (decide p) k.goodC False := e
    show p ∧ k.holds M
    cases hp : decide p with
    | true => rw [hp] at e; exact ⟨of_decide_eq_true hp, Out.goodC_holds hM k e⟩
    | false => rw [hp] at e; exact e.elim
  | .same a b k, ⟨h1, h2⟩ => ⟨h1, Out.goodC_holds hM k h2⟩
  | .asm p k, e => fun _ => Out.goodC_holds hM k e
  | .all β f, e => fun x => Out.goodC_holds hM (f x) (e x)
  | .ex _ _, e => e.elim
  | .both a b, ⟨h1, h2⟩ => ⟨Out.goodC_holds hM a h1, Out.goodC_holds hM b h2⟩
  | .maybe b t k, e => by
    cases b with
    | true => exact And.intro (fun _ => Out.goodC_holds hM t e.1) (Out.goodC_holds hM k e.2)
    | false => exact And.intro (fun h => Bool.noConfusion h) (Out.goodC_holds hM k e)
  | .bad _, e => e.elim
end

noncomputable section
variable {P : Program}
/-- A closed run of a whole function. -/
def runQ (P : Program) (fns : Nat → Option Func) (hooks : Nat → Option (HookS RU)) (n f : Nat) (fn : Func) : Out RU := match fn.body with
  | some body => fastCode P fns hooks (fun _ _ => none) n f body ⟨[], [], 0, fn.ntmps, []⟩ (fun e s' => @EX.rec (fun _ => Out RU) (resF fn s' fun v => .fin v [] 0) (resF fn s' fun v => .fin v [] 0) (fun _ => .bad 301) e)
  | none => .bad 0
theorem runQ_eq (fns : Nat → Option Func) (hooks : Nat → Option (HookS RU)) (n f : Nat) (fn : Func) : runQ P fns hooks n f fn = runL (cfgQ P fns hooks (fun _ _ => none)) n f fn [] [] 0 := by
  unfold runQ runL
  cases fn.body with
  | none => rfl
  | some body =>
    show fastCode P fns hooks (fun _ _ => none) n f body ⟨[], [], 0, fn.ntmps, []⟩ _ = runCode _ n f body ⟨argsEnv 0 [], [], 0, fn.ntmps, []⟩ _
    rw [fast_eq]
    refine congrArg (fun K => runCode (cfgQ P fns hooks (fun _ _ => none)) n f body ⟨[], [], 0, fn.ntmps, []⟩ K) ?_
    funext e s'
    cases e <;> first | exact resF_eq fn s' _ | rfl
theorem closed_calls {fns : Nat → Option Func} {hooks : Nat → Option (HookS RU)} (hC : (cfgQ P fns hooks (fun _ _ => none)).ok) {n f : Nat} {fn : Func} (hg : P.funcs[f]? = some fn ∧ (fn.name == "runtime.NumGoroutine") = false) (hb : fn.body.isSome = true)
    (H : (runQ P fns hooks n f fn).goodC) : CallsSx (U := RU) P f [] [] 0 (fun v _ _ _ => v.sub .tt) := by
  rw [runQ_eq] at H
  refine calls_runL hC (n := n) hg hb (Nat.zero_le _) (Out.goodC_holds (fun v h k hv => ?_) _ H)
  rcases hv with rfl | rfl
  · exact AV.sub_refl _
  · exact fun r v h => h
end

section
variable {U : Uni} {P : Program}
/-- What takes nothing and tells true. -/
def hookTrue : HookS U := fun args h nx K => match args with
  | [] => K .tt h nx []
  | _ => .bad 720
theorem hookTrue_ok {f : Nat} {U' : Uni} (hc : CallsSx (U := U') P f [] [] 0 (fun v _ _ _ => v.sub .tt)) : HookOk (U := U) P f hookTrue := by
  intro M args h nx K H
  unfold hookTrue at H
  split at H
  · refine ⟨hc.1, fun β r vs w hr hs hf => ?_⟩
    obtain ⟨hm, A, hd, hap, hin⟩ := hs
    have hGin : (A.join β.G).inW w := (Hp.inW_join hap).2 ⟨hin, hm.G⟩
    have hsat : Sat (U := U') ⟨A.join β.G, β.os, β.output, β.tape⟩ (fun _ => none) [] w :=
      ⟨⟨hm.os, hm.output, hm.tape, hGin⟩, Hp.nil, rfl, Hp.nil_apart _, Hp.inW_nil w⟩
    have hvs : vs = [] := by simpa [relL] using hr
    subst hvs
    refine (hc.2 _ (fun _ => none) [] w (by simp [relL]) hsat (fun _ _ => rfl)).mono ?_
    rintro e w' ⟨v, h', nx', T, z, r', rfl, hv, _, _, hz, ⟨hm', _⟩, _⟩
    have hG' := (Hp.inW_join hap).1 hm'.G
    have hz' : z = .bool true := hv r' z hz
    exact ⟨.tt, h, nx, [], z, r, rfl, H, Nm.le.refl r, hf, by rw [hz']; simp [rel], ⟨⟨hm'.os, hm'.output, hm'.tape, hG'.2⟩, A, hd, hap, hG'.1⟩, Kept.refl _ _⟩
  · exact H.elim
end
end Sx
end Go.Proofs.YtmcmdghmglopnaaGreatDoor

