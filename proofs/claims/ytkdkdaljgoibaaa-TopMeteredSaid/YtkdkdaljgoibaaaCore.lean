/-
  Rules for stepping through the elaborated code of a function with a sparse frame: which slot holds which value.
  Generic in the program. Nothing here speaks of a statement.
-/
import Derived.WalkKit
namespace Go.Proofs.Ytkdkdaljgoibaaa
open Go

/-- A sparse frame: slot, value; the newest entry of a slot counts. -/
def envGet : List (Nat × Value) → Nat → Option Value
  | [], _ => none
  | (i, v) :: r, t => match Nat.beq i t with
    | true => some v
    | false => envGet r t

def ev (ρ : List (Nat × Value)) : Operand → Option Value
  | .tmp t => envGet ρ t
  | .const v => some v
  | .global g => some (.pointer (some ⟨g, 0, none⟩))
  | .func f => some (.func (.func f) #[] #[])

def evs (ρ : List (Nat × Value)) : List Operand → Option (List Value)
  | [] => some []
  | x :: r => match ev ρ x, evs ρ r with
    | some v, some vs => some (v :: vs)
    | _, _ => none

/-- The dense frame a agrees with the sparse one. -/
structure St (n : Nat) (ρ : List (Nat × Value)) (a : Act) : Prop where
  defers : a.defers = []
  size : a.tmps.size = n
  get : ∀ t v, envGet ρ t = some v → a.tmps[t]? = some v

theorem envGet_cons (i : Nat) (v : Value) (r : List (Nat × Value)) (t : Nat) : envGet ((i, v) :: r) t = if i = t then some v else envGet r t := by
  rw [envGet]
  by_cases h : i = t
  · subst h; simp
  · have : Nat.beq i t = false := by
      cases hb : Nat.beq i t with
      | false => rfl
      | true => exact absurd (Nat.eq_of_beq_eq_true hb) h
    simp [this, h]

section
variable {n : Nat} {ρ : List (Nat × Value)} {a : Act}

theorem St.tmp (h : St n ρ a) {t : Nat} {v : Value} (hx : envGet ρ t = some v) : a.tmps.getD t undef = v := by
  have := h.get t v hx
  simp [Array.getD_eq_getD_getElem?, this]

theorem St.eval (h : St n ρ a) {x : Operand} {v : Value} (hx : ev ρ x = some v) : a.eval x = v := by
  cases x with
  | tmp t => exact h.tmp hx
  | const u => simpa [ev, Act.eval] using hx
  | global g => simpa [ev, Act.eval] using hx
  | func f => simpa [ev, Act.eval] using hx

theorem St.evals (h : St n ρ a) : ∀ {xs : List Operand} {vs : List Value}, evs ρ xs = some vs → xs.map a.eval = vs
  | [], vs, hx => by simpa [evs] using hx
  | x :: r, vs, hx => by
    rw [evs] at hx
    cases hv : ev ρ x with
    | none => simp [hv] at hx
    | some v =>
      cases hr : evs ρ r with
      | none => simp [hv, hr] at hx
      | some us =>
        simp only [hv, hr, Option.some.injEq] at hx
        subst hx
        simp [h.eval hv, h.evals hr]

theorem St.put (h : St n ρ a) {d : Nat} (hd : Nat.blt d n = true) (v : Value) : St n ((d, v) :: ρ) (a.put (some d) v) := by
  have hd' : d < n := by simpa [Nat.blt_eq] using hd
  refine ⟨h.defers, by simp [Act.put, h.size], fun t u hu => ?_⟩
  rw [envGet_cons] at hu
  by_cases e : d = t
  · subst e
    simp only [if_true, Option.some.injEq] at hu
    subst hu
    simp [Act.put, h.size, hd']
  · rw [if_neg e] at hu
    simp only [Act.put]
    rw [Array.getElem?_setIfInBounds_ne e]
    exact h.get t u hu

/-- ρ' says no more than ρ. -/
def envSub (ρ : List (Nat × Value)) : List (Nat × Value) → Prop
  | [] => True
  | (t, v) :: r => envGet ρ t = some v ∧ envSub ρ r

theorem envSub.nil {ρ : List (Nat × Value)} : envSub ρ [] := trivial
theorem envSub.cons {ρ r : List (Nat × Value)} {t : Nat} {v : Value} (h : envGet ρ t = some v) (hr : envSub ρ r) : envSub ρ ((t, v) :: r) := ⟨h, hr⟩
theorem envSub.get : ∀ {ρ' : List (Nat × Value)}, envSub ρ ρ' → ∀ t v, envGet ρ' t = some v → envGet ρ t = some v
  | [], _, _, _, h => by simp [envGet] at h
  | (i, u) :: r, hs, t, v, h => by
    rw [envGet_cons] at h
    by_cases e : i = t
    · subst e
      simp only [if_true, Option.some.injEq] at h
      subst h
      exact hs.1
    · rw [if_neg e] at h
      exact hs.2.get t v h

theorem St.sub {ρ' : List (Nat × Value)} (h : St n ρ a) (hs : envSub ρ ρ') : St n ρ' a :=
  ⟨h.defers, h.size, fun t v hv => h.get t v (hs.get t v hv)⟩
end

/-- The code c, from every frame that agrees with ρ. -/
def W (P : Program) (c : Code) (Q : Exit → Act → World → Prop) (n : Nat) (ρ : List (Nat × Value)) (w : World) : Prop :=
  ∀ a, St n ρ a → c.wp P Q a w
/-- A way through operations, one behind the other: S l ρ w: from the operations l on, in frame ρ and world w. A value's operation is passed by its run. -/
structure SqV (P : Program) (n : Nat) where
  ops : Array Oper
  S : List Oper → List (Nat × Value) → World → Prop
  val_ : ∀ {o rest ρ w d v}, o.guard = none → o.dst = some d → Nat.blt d n = true → (∀ a, St n ρ a → (execOp a.eval o).run P w = .ok (.value v) w) → S rest ((d, v) :: ρ) w → S (o :: rest) ρ w
  on_ : ∀ {d op ty pos aft j b rest ρ w t}, (ops[j]?).bind (·.dst) = some t → envGet ρ t = some (.bool b) → S (⟨d, op, ty, pos, aft, none⟩ :: rest) ρ w → S (⟨d, op, ty, pos, aft, some (j, b)⟩ :: rest) ρ w
  off_ : ∀ {o rest ρ w d}, (∀ a, St n ρ a → Region.wanted o (yielded ops a.tmps) = false) → o.dst = some d → Nat.blt d n = true → S rest ((d, undef) :: ρ) w → S (o :: rest) ρ w

/-- The same, where an operation may turn the world. -/
structure Sq (P : Program) (n : Nat) extends SqV P n where
  Q : Exit → Act → World → Prop
  step_ : ∀ {o rest ρ w}, o.guard = none → (∀ K : Act → World → Prop, (∀ a' ρ' w', St n ρ' a' → S rest ρ' w' → K a' w') → ∀ a, St n ρ a → o.wp P a w K Q) → S (o :: rest) ρ w
/-- The exit e. -/
def WX (Q : Exit → Act → World → Prop) (e : Exit) (n : Nat) (ρ : List (Nat × Value)) (w : World) : Prop :=
  ∀ a, St n ρ a → Q e a w

/-- A call that returns a value. -/
def Fn (P : Program) (f : FuncId) (args : List Value) (w : World) (R : Value → World → Prop) : Prop :=
  Calls P f args.toArray w fun e w' => ∃ v, e = .returned v ∧ R v w'

theorem Fn.mono {P : Program} {f : FuncId} {args : List Value} {w : World} {R R' : Value → World → Prop} (h : Fn P f args w R) (hr : ∀ v w', R v w' → R' v w') : Fn P f args w R' :=
  Calls.mono h fun _ _ ⟨v, e, r⟩ => ⟨v, e, hr _ _ r⟩

/-- What a body must end in. -/
def Done (P : Program) (fn : Func) (R : Value → World → Prop) : Exit → Act → World → Prop :=
  bodyPost P fn fun e w' => ∃ v, e = .returned v ∧ R v w'

section
variable {P : Program} {Q : Exit → Act → World → Prop} {n : Nat} {ρ : List (Nat × Value)} {w : World}

theorem Fn.enter {f : FuncId} {fn : Func} {c : Code} {args : List Value} {R : Value → World → Prop} (hf : P.funcs[f]? = some fn) (hb : fn.body = some c)
    (hn : fn.ntmps = n) (hlen : Nat.ble args.length n = true) (h : W P c (Done P fn R) n ((List.range args.length).zip args) w) : Fn P f args w R := by
  refine calls_of_wp hf hb (h _ ⟨rfl, ?_, ?_⟩)
  · have : args.length ≤ n := by simpa using hlen
    simp only [Array.size_append, List.size_toArray, Array.size_replicate, hn]
    omega
  · intro t v hv
    have key : ∀ (l : List Value) (k : Nat), envGet ((List.range' k l.length).zip l) t = some v → k ≤ t ∧ l[t - k]? = some v := by
      intro l
      induction l with
      | nil => intro k h; simp [envGet] at h
      | cons x l ih =>
        intro k h
        simp only [List.length_cons, List.range'_succ, List.zip_cons_cons, envGet_cons] at h
        by_cases e : k = t
        · subst e
          simp only [if_true, Option.some.injEq] at h
          subst h
          simp
        · rw [if_neg e] at h
          obtain ⟨h1, h2⟩ := ih (k + 1) h
          refine ⟨by omega, ?_⟩
          rw [show t - k = (t - (k + 1)) + 1 by omega]
          simpa using h2
    rw [List.range_eq_range'] at hv
    obtain ⟨_, h2⟩ := key args 0 hv
    simp only [Nat.sub_zero] at h2
    obtain ⟨hlt, _⟩ := List.getElem?_eq_some_iff.1 h2
    rw [Array.getElem?_append_left (by simpa using hlt)]
    simpa using h2

theorem W.sub {c : Code} (ρ' : List (Nat × Value)) (hs : envSub ρ ρ') (h : W P c Q n ρ' w) : W P c Q n ρ w := fun a ha => h a (ha.sub hs)

/-! ### control -/

theorem W.seq {x y : Code} (h : W P x (Exit.then (y.wp P Q) Q) n ρ w) : W P (.seq x y) Q n ρ w := fun a ha => wp_seq (h a ha)
theorem W.skip (h : WX Q .normal n ρ w) : W P .skip Q n ρ w := fun a ha => wp_skip (h a ha)
theorem W.label {l : Nat} (h : WX Q .normal n ρ w) : W P (.label l) Q n ρ w := fun a ha => wp_label (h a ha)
theorem W.exit {id : Nat} (h : WX Q (.exit id) n ρ w) : W P (.exit id) Q n ρ w := fun a ha => wp_exit (h a ha)
theorem W.ret (h : WX Q .ret n ρ w) : W P .ret Q n ρ w := fun a ha => wp_ret (h a ha)
theorem W.block {id : Nat} {c : Code} (h : W P c (Exit.inBlock id Q) n ρ w) : W P (.block id c) Q n ρ w := fun a ha => wp_block (h a ha)
theorem W.cond {c : Operand} {x y : Code} {b : Bool} (hc : ev ρ c = some (.bool b)) (ht : b = true → W P x Q n ρ w) (hf : b = false → W P y Q n ρ w) :
    W P (.cond c x y) Q n ρ w := fun a ha => wp_cond_split (ha.eval hc) (fun h => ht h a ha) (fun h => hf h a ha)
theorem W.condT {c : Operand} {x y : Code} (hc : ev ρ c = some (.bool true)) (ht : W P x Q n ρ w) : W P (.cond c x y) Q n ρ w :=
  W.cond hc (fun _ => ht) (fun h => by cases h)
theorem W.condF {c : Operand} {x y : Code} (hc : ev ρ c = some (.bool false)) (hf : W P y Q n ρ w) : W P (.cond c x y) Q n ρ w :=
  W.cond hc (fun h => by cases h) (fun _ => hf)
theorem W.ite {c : Operand} {x y : Code} {p : Prop} [Decidable p] (hc : ev ρ c = some (.bool (decide p))) (ht : p → W P x Q n ρ w) (hf : ¬ p → W P y Q n ρ w) :
    W P (.cond c x y) Q n ρ w := W.cond hc (fun h => ht (of_decide_eq_true h)) (fun h => hf (of_decide_eq_false h))
theorem W.iteN {c : Operand} {x y : Code} {p : Prop} [Decidable p] (hc : ev ρ c = some (.bool (!decide p))) (ht : ¬ p → W P x Q n ρ w) (hf : p → W P y Q n ρ w) :
    W P (.cond c x y) Q n ρ w := W.cond hc (fun h => ht (by simpa using h)) (fun h => hf (by simpa using h))

theorem W.scope {c : Code} (h : W P c (Exit.noGoto Q) n ρ w) : W P (.scope c) Q n ρ w := fun a ha => wp_scope_straight (h a ha)
theorem yielded_of {ops : Array Oper} {a : Act} (ha : St n ρ a) {j : Nat} {t : Nat} {b : Bool} (hj : (ops[j]?).bind (·.dst) = some t) (ht : envGet ρ t = some (.bool b)) : yielded ops a.tmps j = some b := by
  unfold yielded
  rw [hj, Option.bind_some, ha.get t _ ht]

/-- A region whose order is that of the text. -/
def wl (P : Program) (ops : Array Oper) (Q : Exit → Act → World → Prop) (n : Nat) : Sq P n where
  ops := ops
  S := fun l ρ w => ∀ a, St n ρ a → wpList P ops Q l a w
  Q := Q
  val_ := fun hg hdst hd hrun k a ha => wpList_plain hg fun K hK => by
    unfold Oper.wp
    rw [hrun a ha, Oper.upon_value, hdst]
    exact hK _ _ (k _ (ha.put hd _))
  on_ := fun {d op ty pos aft j b rest ρ w t} hj ht k a ha => by
    have h := k a ha
    unfold wpList at h ⊢
    have h1 : Region.wanted ⟨d, op, ty, pos, aft, some (j, b)⟩ (yielded ops a.tmps) = true := by simp [Region.wanted, yielded_of ha hj ht]
    have h2 : Region.wanted ⟨d, op, ty, pos, aft, none⟩ (yielded ops a.tmps) = true := by simp [Region.wanted]
    rw [if_pos h1]
    rw [if_pos h2] at h
    exact h
  off_ := fun hw hdst hd k a ha => by
    unfold wpList
    rw [if_neg (by rw [hw a ha]; simp), hdst]
    exact k _ (ha.put hd undef)
  step_ := fun hg h a ha => wpList_plain hg fun K hK => h K (fun a' ρ' w' ha' hr => hK a' w' (hr a' ha')) a ha

theorem W.region {id : Nat} {l : List Oper} (h : (wl P l.toArray Q n).S l ρ w) : W P (.region id l.toArray false) Q n ρ w := fun a ha => wp_region_lit (h a ha)
theorem WL.nil {ops : Array Oper} (h : WX Q .normal n ρ w) : (wl P ops Q n).S [] ρ w := fun a ha => wpList_nil (h a ha)

/-! ### exits -/

theorem WX.next {y : Code} (h : W P y Q n ρ w) : WX (Exit.then (y.wp P Q) Q) .normal n ρ w := fun a ha => h a ha
theorem WX.thenExit {K : Act → World → Prop} {id : Nat} (h : WX Q (.exit id) n ρ w) : WX (Exit.then K Q) (.exit id) n ρ w := fun a ha => h a ha
theorem WX.thenRet {K : Act → World → Prop} (h : WX Q .ret n ρ w) : WX (Exit.then K Q) .ret n ρ w := fun a ha => h a ha
theorem WX.blockNormal {id : Nat} (h : WX Q .normal n ρ w) : WX (Exit.inBlock id Q) .normal n ρ w := fun a ha => h a ha
theorem WX.blockRet {id : Nat} (h : WX Q .ret n ρ w) : WX (Exit.inBlock id Q) .ret n ρ w := fun a ha => h a ha
theorem WX.blockHere {id : Nat} (h : WX Q .normal n ρ w) : WX (Exit.inBlock id Q) (.exit id) n ρ w := fun a ha => by
  simp only [Exit.inBlock, if_true]; exact h a ha
theorem WX.blockPast {id id' : Nat} (hne : Nat.beq id' id = false) (h : WX Q (.exit id') n ρ w) : WX (Exit.inBlock id Q) (.exit id') n ρ w := fun a ha => by
  have : ¬ id' = id := Nat.ne_of_beq_eq_false hne
  simp only [Exit.inBlock, this, if_false]; exact h a ha

theorem WX.scopeNormal (h : WX Q .normal n ρ w) : WX (Exit.noGoto Q) .normal n ρ w := fun a ha => h a ha
theorem WX.scopeRet (h : WX Q .ret n ρ w) : WX (Exit.noGoto Q) .ret n ρ w := fun a ha => h a ha
theorem WX.scopeExit {id : Nat} (h : WX Q (.exit id) n ρ w) : WX (Exit.noGoto Q) (.exit id) n ρ w := fun a ha => h a ha

theorem WX.ret1 {fn : Func} {R : Value → World → Prop} {t : Tmp} {v : Value} (hr : fn.results = #[.tmp t]) (hv : envGet ρ t = some v) (h : R v w) : WX (Done P fn R) .ret n ρ w := fun a ha =>
  ⟨ha.defers, v, by rw [results_tmp hr, ha.tmp hv], v, rfl, h⟩
theorem WX.ret2 {fn : Func} {R : Value → World → Prop} {t u : Tmp} {v1 v2 : Value} (hr : fn.results = #[.tmp t, .tmp u]) (h1 : envGet ρ t = some v1) (h2 : envGet ρ u = some v2) (h : R (.tuple #[v1, v2]) w) :
    WX (Done P fn R) .ret n ρ w := fun a ha => ⟨ha.defers, _, by rw [results_tmp2 hr, ha.tmp h1, ha.tmp h2], _, rfl, h⟩
theorem WX.ret3 {fn : Func} {R : Value → World → Prop} {t u s : Tmp} {v1 v2 v3 : Value} (hr : fn.results = #[.tmp t, .tmp u, .tmp s]) (h1 : envGet ρ t = some v1) (h2 : envGet ρ u = some v2) (h3 : envGet ρ s = some v3)
    (h : R (.tuple #[v1, v2, v3]) w) : WX (Done P fn R) .ret n ρ w := fun a ha => ⟨ha.defers, _, by rw [results_tmp3 hr, ha.tmp h1, ha.tmp h2, ha.tmp h3], _, rfl, h⟩
theorem WX.end0 {fn : Func} {R : Value → World → Prop} (hr : fn.results = #[]) (h : R (.tuple #[]) w) : WX (Done P fn R) .normal n ρ w := fun _ ha =>
  ⟨ha.defers, _, results_none hr _ _ _, _, rfl, h⟩
theorem WX.ret0 {fn : Func} {R : Value → World → Prop} (hr : fn.results = #[]) (h : R (.tuple #[]) w) : WX (Done P fn R) .ret n ρ w := fun _ ha =>
  ⟨ha.defers, _, results_none hr _ _ _, _, rfl, h⟩

/-! ### loops -/

/-- The head of a loop: the frame, the facts and the measure of some state i. -/
def Head (n : Nat) {ι : Type} (ρI : ι → List (Nat × Value)) (F : ι → World → Prop) (μ : ι → Nat) (m : Nat) (a : Act) (w : World) : Prop :=
  ∃ i, St n (ρI i) a ∧ F i w ∧ μ i < m

theorem least {p : Nat → Prop} (h : ∃ m, p m) : ∃ m, p m ∧ ∀ k, p k → m ≤ k := by
  obtain ⟨m, hm⟩ := h
  induction m using Nat.strongRecOn with
  | _ m ih =>
    by_cases hk : ∃ k, k < m ∧ p k
    · obtain ⟨k, hlt, hp⟩ := hk
      exact ih k hlt hp
    · exact ⟨m, hm, fun k hp => Nat.le_of_not_lt fun hlt => hk ⟨k, hlt, hp⟩⟩

theorem W.loop {ι : Type} (ρI : ι → List (Nat × Value)) (F : ι → World → Prop) (μ : ι → Nat) {c : Code} (i : ι) (hρ : envSub ρ (ρI i)) (hF : F i w)
    (h : ∀ i w, F i w → W P c (Exit.then (Head n ρI F μ (μ i)) Q) n (ρI i) w) : W P (.loop c) Q n ρ w := by
  classical
  intro a ha
  let I : Act → World → Nat → Prop := fun a w m => ∃ i, St n (ρI i) a ∧ F i w ∧ μ i = m
  refine wp_loop (fun a w => ∃ m, I a w m) (fun a w => if hm : ∃ m, I a w m then Classical.choose (least hm) else 0) ⟨μ i, i, ha.sub hρ, hF, rfl⟩ ?_
  intro a w hI
  obtain ⟨⟨j, hj1, hj2, hj3⟩, _⟩ := Classical.choose_spec (least hI)
  refine Code.wp_mono (fun e a' w' q => ?_) (h j w hj2 a hj1)
  cases e with
  | normal =>
    obtain ⟨i', h1, h2, h3⟩ := q
    have hI' : ∃ m, I a' w' m := ⟨μ i', i', h1, h2, rfl⟩
    refine ⟨hI', ?_⟩
    rw [dif_pos hI', dif_pos hI]
    have hle := (Classical.choose_spec (least hI')).2 (μ i') ⟨i', h1, h2, rfl⟩
    omega
  | _ => exact q

theorem WX.round {ι : Type} {ρI : ι → List (Nat × Value)} {F : ι → World → Prop} {μ : ι → Nat} {m : Nat} (i : ι) (hρ : envSub ρ (ρI i)) (hF : F i w) (hm : μ i < m) :
    WX (Exit.then (Head n ρI F μ m) Q) .normal n ρ w := fun _ ha => ⟨i, ha.sub hρ, hF, hm⟩

/-! ### a joint: what stands behind is proved once -/

theorem WX.imp {Q' : Exit → Act → World → Prop} {e : Exit} (h : WX Q e n ρ w) (hq : ∀ a, Q e a w → Q' e a w) : WX Q' e n ρ w := fun a ha => hq a (h a ha)

/-- A cut behind x: for some state j of the joint. -/
theorem W.joint {ι : Type} (ρJ : ι → List (Nat × Value)) (F : ι → World → Prop) {x y : Code}
    (hx : W P x (Exit.then (fun a w => ∃ j, St n (ρJ j) a ∧ F j w) Q) n ρ w) (hy : ∀ j w, F j w → W P y Q n (ρJ j) w) : W P (.seq x y) Q n ρ w := fun a ha =>
  wp_seq (Code.wp_mono (fun e a' w' q => by
    cases e with
    | normal => obtain ⟨j, h1, h2⟩ := q; exact hy j w' h2 a' h1
    | _ => exact q) (hx a ha))
theorem WX.join {ι : Type} {ρJ : ι → List (Nat × Value)} {F : ι → World → Prop} (j : ι) (hρ : envSub ρ (ρJ j)) (hF : F j w) :
    WX (Exit.then (fun a w => ∃ j, St n (ρJ j) a ∧ F j w) Q) .normal n ρ w := fun _ ha => ⟨j, ha.sub hρ, hF⟩

/-! ### operations -/

variable {rest : List Oper} {X : SqV P n} {Y : Sq P n}

theorem WL.val {o : Oper} {d : Nat} {v : Value} (hg : o.guard = none) (hdst : o.dst = some d) (hd : Nat.blt d n = true)
    (hrun : ∀ a, St n ρ a → (execOp a.eval o).run P w = .ok (.value v) w) (k : X.S rest ((d, v) :: ρ) w) : X.S (o :: rest) ρ w := X.val_ hg hdst hd hrun k
theorem WL.valW {o : Oper} {d : Nat} {v : Value} {w' : World} (hg : o.guard = none) (hdst : o.dst = some d) (hd : Nat.blt d n = true)
    (hrun : ∀ a, St n ρ a → (execOp a.eval o).run P w = .ok (.value v) w') (k : Y.S rest ((d, v) :: ρ) w') : Y.S (o :: rest) ρ w :=
  Y.step_ hg fun K hK a ha => by
    unfold Oper.wp
    rw [hrun a ha, Oper.upon_value, hdst]
    exact hK _ _ _ (ha.put hd v) k
theorem WL.unit {o : Oper} {w' : World} (hg : o.guard = none) (hdst : o.dst = none)
    (hrun : ∀ a, St n ρ a → (execOp a.eval o).run P w = .ok .skip w') (k : Y.S rest ρ w') : Y.S (o :: rest) ρ w :=
  Y.step_ hg fun K hK a ha => by
    unfold Oper.wp
    rw [hrun a ha, Oper.upon_skip, hdst]
    exact hK _ _ _ ha k

theorem WL.on {d : Option Nat} {op : Op} {ty : TypeId} {pos : String} {aft : Array Edge} {j : Nat} {b : Bool} {t : Nat} (hj : (X.ops[j]?).bind (·.dst) = some t) (ht : envGet ρ t = some (.bool b))
    (k : X.S (⟨d, op, ty, pos, aft, none⟩ :: rest) ρ w) : X.S (⟨d, op, ty, pos, aft, some (j, b)⟩ :: rest) ρ w := X.on_ hj ht k
theorem WL.off {d : Nat} {op : Op} {ty : TypeId} {pos : String} {aft : Array Edge} {j : Nat} {b b' : Bool} {t : Nat} (hj : (X.ops[j]?).bind (·.dst) = some t) (ht : envGet ρ t = some (.bool b')) (hb : (b' == b) = false)
    (hd : Nat.blt d n = true) (k : X.S rest ((d, undef) :: ρ) w) : X.S (⟨some d, op, ty, pos, aft, some (j, b)⟩ :: rest) ρ w :=
  X.off_ (fun a ha => by
    have := yielded_of ha hj ht
    simp only [Region.wanted, this]
    cases b <;> cases b' <;> simp_all) rfl hd k
theorem WL.offU {d : Nat} {op : Op} {ty : TypeId} {pos : String} {aft : Array Edge} {j : Nat} {b : Bool} {t : Nat} (hj : (X.ops[j]?).bind (·.dst) = some t) (ht : envGet ρ t = some undef)
    (hd : Nat.blt d n = true) (k : X.S rest ((d, undef) :: ρ) w) : X.S (⟨some d, op, ty, pos, aft, some (j, b)⟩ :: rest) ρ w :=
  X.off_ (fun a ha => by
    have : yielded X.ops a.tmps j = none := by
      unfold yielded
      rw [hj, Option.bind_some, ha.get t _ ht]
      rfl
    simp only [Region.wanted, this]
    rfl) rfl hd k

section
variable {d : Nat} {ty : TypeId} {pos : String} {aft : Array Edge}

theorem WL.move {x : Operand} {v : Value} (hx : ev ρ x = some v) (hd : Nat.blt d n = true) (k : X.S rest ((d, v) :: ρ) w) :
    X.S (⟨some d, .move x, ty, pos, aft, none⟩ :: rest) ρ w :=
  WL.val rfl rfl hd (fun a ha => by simp [execOp, ha.eval hx]) k
theorem WL.assign {x : Operand} {v : Value} (hx : ev ρ x = some v) (hd : Nat.blt d n = true) (k : X.S rest ((d, v) :: ρ) w) :
    X.S (⟨some d, .assign x, ty, pos, aft, none⟩ :: rest) ρ w :=
  WL.val rfl rfl hd (fun a ha => by simp [execOp, ha.eval hx]) k

/-- A value that guards others: both ways. -/
theorem WL.moveIf {x : Operand} {p : Prop} [Decidable p] (hx : ev ρ x = some (.bool (decide p))) (hd : Nat.blt d n = true)
    (kt : p → X.S rest ((d, .bool true) :: ρ) w) (kf : ¬ p → X.S rest ((d, .bool false) :: ρ) w) :
    X.S (⟨some d, .move x, ty, pos, aft, none⟩ :: rest) ρ w := by
  by_cases hp : p
  · exact WL.move hx hd (by rw [decide_eq_true hp]; exact kt hp)
  · exact WL.move hx hd (by rw [decide_eq_false hp]; exact kf hp)
theorem WL.moveIfB {x : Operand} {b : Bool} (hx : ev ρ x = some (.bool b)) (hd : Nat.blt d n = true)
    (kt : b = true → X.S rest ((d, .bool true) :: ρ) w) (kf : b = false → X.S rest ((d, .bool false) :: ρ) w) :
    X.S (⟨some d, .move x, ty, pos, aft, none⟩ :: rest) ρ w := by
  cases b
  · exact WL.move hx hd (kf rfl)
  · exact WL.move hx hd (kt rfl)

/-- The same where the test is known. -/
theorem WL.moveT {x : Operand} {p : Prop} [Decidable p] (hp : p) (hx : ev ρ x = some (.bool (decide p))) (hd : Nat.blt d n = true) (k : X.S rest ((d, .bool true) :: ρ) w) :
    X.S (⟨some d, .move x, ty, pos, aft, none⟩ :: rest) ρ w := WL.move (v := .bool true) (by rw [hx, decide_eq_true hp]) hd k
theorem WL.moveF {x : Operand} {p : Prop} [Decidable p] (hp : ¬ p) (hx : ev ρ x = some (.bool (decide p))) (hd : Nat.blt d n = true) (k : X.S rest ((d, .bool false) :: ρ) w) :
    X.S (⟨some d, .move x, ty, pos, aft, none⟩ :: rest) ρ w := WL.move (v := .bool false) (by rw [hx, decide_eq_false hp]) hd k

theorem WL.pick {c x y : Operand} {b : Bool} {v : Value} (hc : ev ρ c = some (.bool b)) (hv : ev ρ (if b = true then x else y) = some v) (hd : Nat.blt d n = true)
    (k : X.S rest ((d, v) :: ρ) w) : X.S (⟨some d, .pick c x y, ty, pos, aft, none⟩ :: rest) ρ w :=
  WL.val rfl rfl hd (fun a ha => by
    cases b
    · simp only [Bool.false_eq_true, if_false] at hv
      simp [execOp, ha.eval hc, asBool, ha.eval hv]
    · simp only [if_true] at hv
      simp [execOp, ha.eval hc, asBool, ha.eval hv]) k
theorem WL.pickT {c x y : Operand} {v : Value} (hc : ev ρ c = some (.bool true)) (hv : ev ρ x = some v) (hd : Nat.blt d n = true)
    (k : X.S rest ((d, v) :: ρ) w) : X.S (⟨some d, .pick c x y, ty, pos, aft, none⟩ :: rest) ρ w := WL.pick (b := true) hc hv hd k
theorem WL.pickF {c x y : Operand} {v : Value} (hc : ev ρ c = some (.bool false)) (hv : ev ρ y = some v) (hd : Nat.blt d n = true)
    (k : X.S rest ((d, v) :: ρ) w) : X.S (⟨some d, .pick c x y, ty, pos, aft, none⟩ :: rest) ρ w := WL.pick (b := false) hc hv hd k

theorem WL.extract {x : Operand} {vs : Array Value} {i : Nat} {v : Value} (hx : ev ρ x = some (.tuple vs)) (hv : vs[i]? = some v) (hd : Nat.blt d n = true)
    (k : X.S rest ((d, v) :: ρ) w) : X.S (⟨some d, .extract x i, ty, pos, aft, none⟩ :: rest) ρ w :=
  WL.val rfl rfl hd (fun a ha => by simp [execOp, ha.eval hx, Instr.extract, hv]) k

theorem WL.call {f : FuncId} {xs : List Operand} {ts : Array TypeId} {vs : List Value} {R : Value → World → Prop} (hcall : ∀ (args : Array Value) (w : World), (callFunc f args).run P w = .ok (.enter f args) w)
    (hxs : evs ρ xs = some vs) (hc : Fn P f vs w R) (hd : Nat.blt d n = true) (k : ∀ v w', R v w' → Y.S rest ((d, v) :: ρ) w') :
    Y.S (⟨some d, .call ⟨.value (.func f), xs.toArray, ts⟩, ty, pos, aft, none⟩ :: rest) ρ w :=
  Y.step_ rfl fun K hK a ha => by
    have e := ha.evals hxs
    unfold Oper.wp
    simp only [execOp, resolve, Act.eval, Deferred.ofValue, Sem.run_bind, Sem.run_pure, Result.andThen_ok, invoke, List.map_toArray, e, Array.append_empty, Array.empty_append, hcall, Oper.upon_enter]
    exact Calls.mono hc fun _ w' ⟨v, he, r⟩ => by subst he; exact hK _ _ _ (ha.put hd v) (k v w' r)

theorem WL.call0 {f : FuncId} {xs : List Operand} {ts : Array TypeId} {vs : List Value} {R : Value → World → Prop} (hcall : ∀ (args : Array Value) (w : World), (callFunc f args).run P w = .ok (.enter f args) w)
    (hxs : evs ρ xs = some vs) (hc : Fn P f vs w R) (k : ∀ v w', R v w' → Y.S rest ρ w') :
    Y.S (⟨none, .call ⟨.value (.func f), xs.toArray, ts⟩, ty, pos, aft, none⟩ :: rest) ρ w :=
  Y.step_ rfl fun K hK a ha => by
    have e := ha.evals hxs
    unfold Oper.wp
    simp only [execOp, resolve, Act.eval, Deferred.ofValue, Sem.run_bind, Sem.run_pure, Result.andThen_ok, invoke, List.map_toArray, e, Array.append_empty, Array.empty_append, hcall, Oper.upon_enter]
    exact Calls.mono hc fun _ w' ⟨v, he, r⟩ => by subst he; exact hK _ _ _ ha (k v w' r)
end
end
end Go.Proofs.Ytkdkdaljgoibaaa
