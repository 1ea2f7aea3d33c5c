/-
  Regions: in the order of the text, and in whatever order is drawn.
-/
import Derived.Test.YtemcdjdglcceiaaSxM
namespace Go.Proofs.Ytemcdjdglcceiaa
namespace Sx
open Go

section
variable {U : Uni} {P : Program} {τ : Tab}

def elemN (l : List Nat) (i : Nat) : Bool := l.any (Nat.beq i ·)
theorem elemN_iff {l : List Nat} {i : Nat} : elemN l i = true ↔ i ∈ l := by
  unfold elemN; rw [List.any_eq_true]
  constructor
  · rintro ⟨x, hx, e⟩; rw [Nat.eq_of_beq_eq_true e]; exact hx
  · intro h; exact ⟨i, h, by simp⟩

/-- A frame and a world, as known. -/
structure SatS (β : Base) (r : Nm) (s : St U) (a : Act) (w : World) : Prop where
  sat : Sat β r s.heap w
  fresh : Fresh r s.nx
  env : EnvOk r s.env a
  size : a.tmps.size = s.nt
  defers : a.defers = []

/-- What was there is there still, but for what was touched. -/
structure Fr (s s' : St U) : Prop where
  tl : ∀ i, i ∈ s.tl → i ∈ s'.tl
  kept : Kept s.heap s'.heap s'.tl
  nt : s'.nt = s.nt
theorem Fr.refl (s : St U) : Fr s s := ⟨fun _ h => h, Kept.refl _ _, rfl⟩
theorem Fr.trans {s t u : St U} (h : Fr s t) (k : Fr t u) : Fr s u :=
  ⟨fun i hi => k.tl i (h.tl i hi), fun id B e hn => k.kept id B (h.kept id B e (fun hh => hn (k.tl id hh))) hn, k.nt.trans h.nt⟩
theorem Fr.step {s : St U} {env : List (Nat × AV)} {h' : Heap U} {nx : Nat} {T : List Nat} (k : Kept s.heap h' T) : Fr s { s with env := env, heap := h', nx := nx, tl := T ++ s.tl } :=
  ⟨fun i hi => List.mem_append.2 (.inr hi), fun id B e hn => k id B e (fun hh => hn (List.mem_append.2 (.inl hh))), rfl⟩

def exOf : EX → Exit
  | .nx => .normal
  | .rt => .ret
  | .ex id => .exit id

def WP (P : Program) (c : Code) (s : St U) (R : EX → St U → Prop) : Prop :=
  ∀ (β : Base) (r : Nm) (a : Act) (w : World), SatS β r s a w → ∀ Q : Exit → Act → World → Prop,
    (∀ e s' r' a' w', R e s' → r.le r' → SatS β r' s' a' w' → Fr s s' → Q (exOf e) a' w') → c.wp P Q a w

def dstOk (nt : Nat) (o : Oper) : Bool := match o.dst with | some d => Nat.blt d nt | none => true
def dstsOk (nt : Nat) (ops : Array Oper) : Bool := ops.toList.all (dstOk nt)
theorem dstsOk_lt {nt : Nat} {ops : Array Oper} (h : dstsOk nt ops = true) {i : Nat} {o : Oper} (ho : ops[i]? = some o) {d : Nat} (hd : o.dst = some d) : d < nt := by
  have hm : o ∈ ops.toList := by rw [Array.mem_toList_iff]; exact Array.mem_of_getElem? ho
  have := List.all_eq_true.1 h o hm
  simp only [dstOk, hd] at this
  exact Nat.le_of_ble_eq_true this

/-! ## in the order of the text -/
def seqOps (τ : Tab) (κ : Kinds U) (C : CallF U) (ops : Array Oper) : List Oper → St U → (St U → Out U) → Out U
  | [], s, K => K s
  | o :: rest, s, K =>
    let skip (s : St U) : Out U := seqOps τ κ C ops rest { s with env := envPut s.env o.dst (.raw undef) } K
    let go (s : St U) : Out U := stepAny τ κ C o.op s.env s.heap s.nx (fun v h' nx' T _ => seqOps τ κ C ops rest { s with env := envPut s.env o.dst v, heap := h', nx := nx', tl := T ++ s.tl } K)
    match want? ops s.env o with
    | .yes => go s
    | .no => skip s
    | .ask d b => (match o.guard with
      | some (_, true) => .ite b (go { s with env := (d, .tt) :: s.env }) (skip { s with env := (d, .ff) :: s.env })
      | some (_, false) => .ite b (skip { s with env := (d, .tt) :: s.env }) (go { s with env := (d, .ff) :: s.env })
      | none => .bad 210)
    | .bad => .bad 211

theorem EnvOk.refine {r : Nm} {env : List (Nat × AV)} {a : Act} (h : EnvOk r env a) {d : Nat} {x : AV} (hx : ∀ z, rel r (envGet env d) z → rel r x z) : EnvOk r ((d, x) :: env) a := by
  intro t
  show rel r (envGet (envPut env (some d) x) t) _
  rw [envGet_put]
  by_cases ht : t = d
  · subst ht; simp only [if_true]; exact hx _ (h t)
  · rw [if_neg ht]; exact h t

theorem want_ask {ops : Array Oper} {env : List (Nat × AV)} {o : Oper} {d : Nat} {b : Bool} (h : want? ops env o = .ask d b) :
    envGet env d = .bool b ∧ ∃ j wt, o.guard = some (j, wt) ∧ (ops[j]?).bind (·.dst) = some d := by
  unfold want? at h
  cases hg : o.guard with
  | none => rw [hg] at h; cases h
  | some q =>
    obtain ⟨j, wt⟩ := q
    rw [hg] at h; simp only at h
    cases hd : (ops[j]?).bind (·.dst) with
    | none => rw [hd] at h; cases h
    | some d' =>
      rw [hd] at h; simp only at h
      split at h <;> try (cases wt <;> (cases h; done))
      rename_i b' hb
      cases h
      exact ⟨hb, j, wt, rfl, hd⟩

theorem guard_slot {ops : Array Oper} {nt : Nat} (hd : dstsOk nt ops = true) {r : Nm} {env : List (Nat × AV)} {a : Act} (he : EnvOk r env a) (hs : a.tmps.size = nt) {o : Oper} :
    ∀ j wt d, o.guard = some (j, wt) → (ops[j]?).bind (·.dst) = some d → rel r (envGet env d) (a.tmps.getD d undef) ∧ d < a.tmps.size := by
  intro j wt d _ hb
  refine ⟨he d, ?_⟩
  cases ho : ops[j]? with
  | none => rw [ho] at hb; simp at hb
  | some p => rw [ho] at hb; simp at hb; rw [hs]; exact dstsOk_lt hd ho hb

theorem seqOps_sound (hτ : τ.met P) {κ : Kinds U} (hκ : κ.met τ) {M : Goal U} {C : CallF U} (hC : C.ok P M) {ops : Array Oper} {Q : Exit → Act → World → Prop} {K : St U → Out U} {β : Base} :
    ∀ (l : List Oper), (∀ o ∈ l, o ∈ ops.toList) → ∀ (s : St U) (r : Nm) (a : Act) (w : World), dstsOk s.nt ops = true → (seqOps τ κ C ops l s K).holds M → SatS β r s a w →
      (∀ s' r' a' w', (K s').holds M → r.le r' → SatS β r' s' a' w' → Fr s s' → Q .normal a' w') → wpList P ops Q l a w
  | [], _, s, r, a, w, _, H, hs, hQ => hQ s r a w H (Nm.le.refl r) hs (Fr.refl s)
  | o :: rest, hin, s, r, a, w, hd, H, hs, hQ => by
    have hoin := hin o (by simp)
    obtain ⟨i0, hi0⟩ := List.mem_iff_getElem?.1 hoin
    have hio : ops[i0]? = some o := by simpa using hi0
    have hdlt : ∀ d, o.dst = some d → d < s.nt := fun d e => dstsOk_lt hd hio e
    have goCase : ∀ (s1 : St U), s1.nt = s.nt → s1.heap = s.heap → s1.tl = s.tl → s1.nx = s.nx → SatS β r s1 a w → Region.wanted o (yielded ops a.tmps) = true →
        (stepAny τ κ C o.op s1.env s1.heap s1.nx (fun v h' nx' T _ => seqOps τ κ C ops rest { s1 with env := envPut s1.env o.dst v, heap := h', nx := nx', tl := T ++ s1.tl } K)).holds M → wpList P ops Q (o :: rest) a w := by
      intro s1 e1 e2 e3 e4 hs1 hw H
      simp only [wpList, hw, if_true]
      left
      have hop := stepAny_sound hτ hκ hC H
      refine hop β r a w (fun x _ => evO_ok hs1.env x) hs1.sat hs1.fresh _ _ ?_
      rintro v h' nx' T z w' r' ⟨_, hK⟩ g1 g2 g3 g4 g5
      have hsat : SatS β r' { s1 with env := envPut s1.env o.dst v, heap := h', nx := nx', tl := T ++ s1.tl } (a.put o.dst z) w' :=
        ⟨g4, g2, (hs1.env.mono g1).put g3 (fun d e => by rw [hs1.size, e1]; exact hdlt d e), by rw [put_size]; exact hs1.size, by rw [put_defers]; exact hs1.defers⟩
      refine seqOps_sound hτ hκ hC rest (fun p hp => hin p (by simp [hp])) _ r' _ w' (by show dstsOk s1.nt ops = true; rw [e1]; exact hd) hK hsat ?_
      intro s' r'' a' w'' hK' l1 hs' hf
      refine hQ s' r'' a' w'' hK' (g1.trans l1) hs' ?_
      have hf0 : Fr s { s1 with env := envPut s1.env o.dst v, heap := h', nx := nx', tl := T ++ s1.tl } :=
        ⟨fun i hi => List.mem_append.2 (.inr (by rw [e3]; exact hi)), fun id B e hn => g5 id B (by rw [e2]; exact e) (fun hh => hn (List.mem_append.2 (.inl hh))), e1⟩
      exact hf0.trans hf
    have skipCase : ∀ (s1 : St U), s1.nt = s.nt → s1.heap = s.heap → s1.tl = s.tl → s1.nx = s.nx → SatS β r s1 a w → Region.wanted o (yielded ops a.tmps) = false →
        (seqOps τ κ C ops rest { s1 with env := envPut s1.env o.dst (.raw undef) } K).holds M → wpList P ops Q (o :: rest) a w := by
      intro s1 e1 e2 e3 e4 hs1 hw H
      simp only [wpList, hw, Bool.false_eq_true, if_false]
      have hsat : SatS β r { s1 with env := envPut s1.env o.dst (.raw undef) } (a.put o.dst undef) w :=
        ⟨hs1.sat, hs1.fresh, hs1.env.put rfl (fun d e => by rw [hs1.size, e1]; exact hdlt d e), by rw [put_size]; exact hs1.size, by rw [put_defers]; exact hs1.defers⟩
      refine seqOps_sound hτ hκ hC rest (fun p hp => hin p (by simp [hp])) _ r _ w (by show dstsOk s1.nt ops = true; rw [e1]; exact hd) H hsat ?_
      intro s' r'' a' w'' hK' l1 hs' hf
      refine hQ s' r'' a' w'' hK' l1 hs' ?_
      have hf0 : Fr s { s1 with env := envPut s1.env o.dst (.raw undef) } := ⟨fun i hi => by show i ∈ s1.tl; rw [e3]; exact hi, fun id B e _ => by show s1.heap.get id = some B; rw [e2]; exact e, e1⟩
      exact hf0.trans hf
    have hwant := want?_sound (guard_slot hd hs.env hs.size (o := o))
    simp only [seqOps] at H
    split at H
    · rename_i hw
      exact goCase s rfl rfl rfl rfl hs (hwant.1 hw) H
    · rename_i hw
      exact skipCase s rfl rfl rfl rfl hs (hwant.2 hw) H
    · rename_i d b hw
      obtain ⟨hb, j, wt, hg, hjd⟩ := want_ask hw
      have ref : ∀ c : Bool, b = c → SatS β r { s with env := (d, bif c then .tt else .ff) :: s.env } a w ∧ Region.wanted o (yielded ops a.tmps) = (c == wt) := by
        intro c hc
        have hs1 : SatS β r { s with env := (d, bif c then .tt else .ff) :: s.env } a w := ⟨hs.sat, hs.fresh, hs.env.refine (fun z hz => by rw [hb] at hz; simp only [rel] at hz; subst hc; subst hz; cases b <;> simp [rel]), hs.size, hs.defers⟩
        refine ⟨hs1, ?_⟩
        obtain ⟨h1, h2⟩ := guard_slot hd hs1.env hs1.size j wt d hg hjd
        have hget : envGet ((d, bif c then AV.tt else AV.ff) :: s.env) d = bif c then AV.tt else AV.ff := by
          show envGet (envPut s.env (some d) _) d = _; rw [envGet_put]; simp
        have hw2 := want?_sound (ops := ops) (o := o) (guard_slot hd hs1.env hs1.size)
        unfold want? at hw2
        simp only [hg, hjd, hget] at hw2
        cases c <;> cases wt <;> simp at hw2 ⊢ <;> exact hw2
      split at H
      · rename_i j' hg'
        rw [hg] at hg'; cases hg'
        cases hbb : b with
        | true =>
          obtain ⟨h1, h2⟩ := ref true hbb
          exact goCase { s with env := (d, .tt) :: s.env } rfl rfl rfl rfl h1 (by simpa using h2) (H.1 hbb)
        | false =>
          obtain ⟨h1, h2⟩ := ref false hbb
          exact skipCase { s with env := (d, .ff) :: s.env } rfl rfl rfl rfl h1 (by simpa using h2) (H.2 hbb)
      · rename_i j' hg'
        rw [hg] at hg'; cases hg'
        cases hbb : b with
        | true =>
          obtain ⟨h1, h2⟩ := ref true hbb
          exact skipCase { s with env := (d, .tt) :: s.env } rfl rfl rfl rfl h1 (by simpa using h2) (H.1 hbb)
        | false =>
          obtain ⟨h1, h2⟩ := ref false hbb
          exact goCase { s with env := (d, .ff) :: s.env } rfl rfl rfl rfl h1 (by simpa using h2) (H.2 hbb)
      · exact H.elim
    · exact H.elim

theorem region_text (hτ : τ.met P) {κ : Kinds U} (hκ : κ.met τ) {M : Goal U} {C : CallF U} (hC : C.ok P M) {id : Nat} {ops : Array Oper} {s : St U} {K : St U → Out U}
    (hd : dstsOk s.nt ops = true) (H : (seqOps τ κ C ops ops.toList s K).holds M) : WP P (.region id ops false) s (fun e s' => e = .nx ∧ (K s').holds M) := by
  intro β r a w hs Q hQ
  refine wp_region ?_
  have := wpOps_eq_wpList (P := P) (ops := ops) (Q := Q) ops.toList 0 (fun j => by simp)
  rw [List.range_eq_range']
  have e : ops.toList.length = ops.size := by simp
  rw [e] at this
  rw [this]
  exact seqOps_sound hτ hκ hC ops.toList (fun _ h => h) s r a w hd H hs (fun s' r' a' w' hK l hs' hf => hQ .nx s' r' a' w' ⟨rfl, hK⟩ l hs' hf)

end
end Sx
end Go.Proofs.Ytemcdjdglcceiaa
