/-
  Rules, laws and walks, part 1 of 11.
-/
import Derived.WalkKit
import Derived.Laws.Small
import Derived.OrdersHeld
import Derived.Test.YtlminileigfkcaaGreatProg
import Derived.Laws.CopyRow
import Derived.Laws.Cells
import Derived.Lib.SliceRun
namespace Go.Proofs.YtlminileigfkcaaGreat
open Go
/-- A sparse frame: slot, value; the newest entry of a slot counts. -/
def envGet : List (Nat × Value) → Nat → Option Value
 | [], _ => none
 | (i, v) :: r, t => match Nat.beq i t with
   | true => some v
   | false => envGet r t
def ev (ρ : List (Nat × Value)) : Operand → Option Value
 | .tmp t => envGet ρ t
 | .const v => some v
 | .global g => some (.pointer (some ⟨g, 0, none⟩))
 | .func f => some (.func (.func f) #[] #[])
def evs (ρ : List (Nat × Value)) : List Operand → Option (List Value)
 | [] => some []
 | x :: r => match ev ρ x, evs ρ r with
   | some v, some vs => some (v :: vs)
   | _, _ => none
/-- The dense frame a agrees with the sparse one. -/
structure St (n : Nat) (ρ : List (Nat × Value)) (a : Act) : Prop where
 defers : a.defers = []
 size : a.tmps.size = n
 get : ∀ t v, envGet ρ t = some v → a.tmps[t]? = some v
theorem envGet_cons (i : Nat) (v : Value) (r : List (Nat × Value)) (t : Nat) : envGet ((i, v) :: r) t = if i = t then some v else envGet r t := by
 rw [envGet]
 by_cases h : i = t
 ·subst h; simp
 ·have : Nat.beq i t = false := by
   cases hb : Nat.beq i t with
   | false => rfl
   | true => exact absurd (Nat.eq_of_beq_eq_true hb) h
  simp [this, h]
section
variable {n : Nat} {ρ : List (Nat × Value)} {a : Act}
theorem St.tmp (h : St n ρ a) {t : Nat} {v : Value} (hx : envGet ρ t = some v) : a.tmps.getD t undef = v := by
 have := h.get t v hx
 simp [Array.getD_eq_getD_getElem?, this]
theorem St.eval (h : St n ρ a) {x : Operand} {v : Value} (hx : ev ρ x = some v) : a.eval x = v := by
 cases x with
 | tmp t => exact h.tmp hx
 | const u => simpa [ev, Act.eval] using hx
 | global g => simpa [ev, Act.eval] using hx
 | func f => simpa [ev, Act.eval] using hx
theorem St.evals (h : St n ρ a) : ∀ {xs : List Operand} {vs : List Value}, evs ρ xs = some vs → xs.map a.eval = vs
 | [], vs, hx => by simpa [evs] using hx
 | x :: r, vs, hx => by
   rw [evs] at hx
   cases hv : ev ρ x with
   | none => simp [hv] at hx
   | some v =>
     cases hr : evs ρ r with
     | none => simp [hv, hr] at hx
     | some us =>
       simp only [hv, hr, Option.some.injEq] at hx
       subst hx
       simp [h.eval hv, h.evals hr]
theorem St.put (h : St n ρ a) {d : Nat} (hd : Nat.blt d n = true) (v : Value) : St n ((d, v) :: ρ) (a.put (some d) v) := by
 have hd' : d < n := by simpa [Nat.blt_eq] using hd
 refine ⟨h.defers, by simp [Act.put, h.size], fun t u hu => ?_⟩
 rw [envGet_cons] at hu
 by_cases e : d = t
 ·subst e
  simp only [if_true, Option.some.injEq] at hu
  subst hu
  simp [Act.put, h.size, hd']
 ·rw [if_neg e] at hu
  simp only [Act.put]
  rw [Array.getElem?_setIfInBounds_ne e]
  exact h.get t u hu
/-- ρ' says no more than ρ. -/
def envSub (ρ : List (Nat × Value)) : List (Nat × Value) → Prop
 | [] => True
 | (t, v) :: r => envGet ρ t = some v ∧ envSub ρ r
theorem envSub.nil {ρ : List (Nat × Value)} : envSub ρ [] := trivial
theorem envSub.cons {ρ r : List (Nat × Value)} {t : Nat} {v : Value} (h : envGet ρ t = some v) (hr : envSub ρ r) : envSub ρ ((t, v) :: r) := ⟨h, hr⟩
/-- A part of a frame, by search. -/
theorem envSub.sf {ρ r : List (Nat × Value)} (h : envSub ρ r := by (repeat' (first | exact envSub.nil | refine envSub.cons ?_ ?_)) <;> first | rfl | (refine congrArg some ?_; refine congrArg (Value.int _) ?_; first | omega | (dsimp only; omega)) | (simp; done) | (refine congrArg some ?_; dsimp only; congr 1; omega) | (simp; omega)) : envSub ρ r := h
theorem envSub.get : ∀ {ρ' : List (Nat × Value)}, envSub ρ ρ' → ∀ t v, envGet ρ' t = some v → envGet ρ t = some v
 | [], _, _, _, h => by simp [envGet] at h
 | (i, u) :: r, hs, t, v, h => by
   rw [envGet_cons] at h
   by_cases e : i = t
   ·subst e
    simp only [if_true, Option.some.injEq] at h
    subst h
    exact hs.1
   ·rw [if_neg e] at h
    exact hs.2.get t v h
theorem St.sub {ρ' : List (Nat × Value)} (h : St n ρ a) (hs : envSub ρ ρ') : St n ρ' a :=
 ⟨h.defers, h.size, fun t v hv => h.get t v (hs.get t v hv)⟩
end
/-- The code c, from every frame that agrees with ρ. -/
def W (P : Program) (c : Code) (Q : Exit → Act → World → Prop) (n : Nat) (ρ : List (Nat × Value)) (w : World) : Prop :=
 ∀ a, St n ρ a → c.wp P Q a w
/-- A way through operations, one behind the other: S l ρ w: from the operations l on, in frame ρ and world w. A value's operation is passed by its run. -/
structure SqV (P : Program) (n : Nat) where
 ops : Array Oper
 S : List Oper → List (Nat × Value) → World → Prop
 val_ : ∀ {o rest ρ w d v}, o.guard = none → o.dst = some d → Nat.blt d n = true → (∀ a, St n ρ a → (execOp a.eval o).run P w = .ok (.value v) w) → S rest ((d, v) :: ρ) w → S (o :: rest) ρ w
 on_ : ∀ {d op ty pos aft j b rest ρ w t}, (ops[j]?).bind (·.dst) = some t → envGet ρ t = some (.bool b) → S (⟨d, op, ty, pos, aft, none⟩ :: rest) ρ w → S (⟨d, op, ty, pos, aft, some (j, b)⟩ :: rest) ρ w
 off_ : ∀ {o rest ρ w d}, (∀ a, St n ρ a → Region.wanted o (yielded ops a.tmps) = false) → o.dst = some d → Nat.blt d n = true → S rest ((d, undef) :: ρ) w → S (o :: rest) ρ w
/-- The same, where an operation may turn the world. -/
structure Sq (P : Program) (n : Nat) extends SqV P n where
 Q : Exit → Act → World → Prop
 step_ : ∀ {o rest ρ w}, o.guard = none → (∀ K : Act → World → Prop, (∀ a' ρ' w', St n ρ' a' → S rest ρ' w' → K a' w') → ∀ a, St n ρ a → o.wp P a w K Q) → S (o :: rest) ρ w
/-- The exit e. -/
def WX (Q : Exit → Act → World → Prop) (e : Exit) (n : Nat) (ρ : List (Nat × Value)) (w : World) : Prop :=
 ∀ a, St n ρ a → Q e a w
/-- A call that returns a value. -/
def Fn (P : Program) (f : FuncId) (args : List Value) (w : World) (R : Value → World → Prop) : Prop :=
 Calls P f args.toArray w fun e w' => ∃ v, e = .returned v ∧ R v w'
theorem Fn.mono {P : Program} {f : FuncId} {args : List Value} {w : World} {R R' : Value → World → Prop} (h : Fn P f args w R) (hr : ∀ v w', R v w' → R' v w') : Fn P f args w R' :=
 Calls.mono h fun _ _ ⟨v, e, r⟩ => ⟨v, e, hr _ _ r⟩
/-- What a body must end in. -/
def Done (P : Program) (fn : Func) (R : Value → World → Prop) : Exit → Act → World → Prop :=
 bodyPost P fn fun e w' => ∃ v, e = .returned v ∧ R v w'
section
variable {P : Program} {Q : Exit → Act → World → Prop} {n : Nat} {ρ : List (Nat × Value)} {w : World}
theorem Fn.enter {f : FuncId} {fn : Func} {c : Code} {args : List Value} {R : Value → World → Prop} (hf : P.funcs[f]? = some fn) (hb : fn.body = some c)
 (hn : fn.ntmps = n) (hlen : Nat.ble args.length n = true) (h : W P c (Done P fn R) n ((List.range args.length).zip args) w) : Fn P f args w R := by
 refine calls_of_wp hf hb (h _ ⟨rfl, ?_, ?_⟩)
 ·have : args.length ≤ n := by simpa using hlen
  simp only [Array.size_append, List.size_toArray, Array.size_replicate, hn]
  omega
 ·intro t v hv
  have key : ∀ (l : List Value) (k : Nat), envGet ((List.range' k l.length).zip l) t = some v → k ≤ t ∧ l[t - k]? = some v := by
   intro l
   induction l with
   | nil => intro k h; simp [envGet] at h
   | cons x l ih =>
     intro k h
     simp only [List.length_cons, List.range'_succ, List.zip_cons_cons, envGet_cons] at h
     by_cases e : k = t
     ·subst e
      simp only [if_true, Option.some.injEq] at h
      subst h
      simp
     ·rw [if_neg e] at h
      obtain ⟨h1, h2⟩ := ih (k + 1) h
      refine ⟨by omega, ?_⟩
      rw [show t - k = (t - (k + 1)) + 1 by omega]
      simpa using h2
  rw [List.range_eq_range'] at hv
  obtain ⟨_, h2⟩ := key args 0 hv
  simp only [Nat.sub_zero] at h2
  obtain ⟨hlt, _⟩ := List.getElem?_eq_some_iff.1 h2
  rw [Array.getElem?_append_left (by simpa using hlt)]
  simpa using h2
theorem W.sub {c : Code} (ρ' : List (Nat × Value)) (hs : envSub ρ ρ') (h : W P c Q n ρ' w) : W P c Q n ρ w := fun a ha => h a (ha.sub hs)
/-! ### control -/
theorem W.seq {x y : Code} (h : W P x (Exit.then (y.wp P Q) Q) n ρ w) : W P (.seq x y) Q n ρ w := fun a ha => wp_seq (h a ha)
theorem W.skip (h : WX Q .normal n ρ w) : W P .skip Q n ρ w := fun a ha => wp_skip (h a ha)
theorem W.label {l : Nat} (h : WX Q .normal n ρ w) : W P (.label l) Q n ρ w := fun a ha => wp_label (h a ha)
theorem W.exit {id : Nat} (h : WX Q (.exit id) n ρ w) : W P (.exit id) Q n ρ w := fun a ha => wp_exit (h a ha)
theorem W.ret (h : WX Q .ret n ρ w) : W P .ret Q n ρ w := fun a ha => wp_ret (h a ha)
theorem W.block {id : Nat} {c : Code} (h : W P c (Exit.inBlock id Q) n ρ w) : W P (.block id c) Q n ρ w := fun a ha => wp_block (h a ha)
theorem W.cond {c : Operand} {x y : Code} {b : Bool} (hc : ev ρ c = some (.bool b)) (ht : b = true → W P x Q n ρ w) (hf : b = false → W P y Q n ρ w) :
 W P (.cond c x y) Q n ρ w := fun a ha => wp_cond_split (ha.eval hc) (fun h => ht h a ha) (fun h => hf h a ha)
theorem W.condT {c : Operand} {x y : Code} (hc : ev ρ c = some (.bool true)) (ht : W P x Q n ρ w) : W P (.cond c x y) Q n ρ w :=
 W.cond hc (fun _ => ht) (fun h => by cases h)
theorem W.condF {c : Operand} {x y : Code} (hc : ev ρ c = some (.bool false)) (hf : W P y Q n ρ w) : W P (.cond c x y) Q n ρ w :=
 W.cond hc (fun h => by cases h) (fun _ => hf)
theorem W.ite {c : Operand} {x y : Code} {p : Prop} [Decidable p] (hc : ev ρ c = some (.bool (decide p))) (ht : p → W P x Q n ρ w) (hf : ¬ p → W P y Q n ρ w) :
 W P (.cond c x y) Q n ρ w := W.cond hc (fun h => ht (of_decide_eq_true h)) (fun h => hf (of_decide_eq_false h))
theorem W.scope {c : Code} (h : W P c (Exit.noGoto Q) n ρ w) : W P (.scope c) Q n ρ w := fun a ha => wp_scope_straight (h a ha)
theorem yielded_of {ops : Array Oper} {a : Act} (ha : St n ρ a) {j : Nat} {t : Nat} {b : Bool} (hj : (ops[j]?).bind (·.dst) = some t) (ht : envGet ρ t = some (.bool b)) : yielded ops a.tmps j = some b := by
 unfold yielded
 rw [hj, Option.bind_some, ha.get t _ ht]
/-- A region whose order is that of the text. -/
def wl (P : Program) (ops : Array Oper) (Q : Exit → Act → World → Prop) (n : Nat) : Sq P n where
 ops := ops
 S := fun l ρ w => ∀ a, St n ρ a → wpList P ops Q l a w
 Q := Q
 val_ := fun hg hdst hd hrun k a ha => wpList_plain hg fun K hK => by
  unfold Oper.wp
  rw [hrun a ha, Oper.upon_value, hdst]
  exact hK _ _ (k _ (ha.put hd _))
 on_ := fun {d op ty pos aft j b rest ρ w t} hj ht k a ha => by
  have h := k a ha
  unfold wpList at h ⊢
  have h1 : Region.wanted ⟨d, op, ty, pos, aft, some (j, b)⟩ (yielded ops a.tmps) = true := by simp [Region.wanted, yielded_of ha hj ht]
  have h2 : Region.wanted ⟨d, op, ty, pos, aft, none⟩ (yielded ops a.tmps) = true := by simp [Region.wanted]
  rw [if_pos h1]
  rw [if_pos h2] at h
  exact h
 off_ := fun hw hdst hd k a ha => by
  unfold wpList
  rw [if_neg (by rw [hw a ha]; simp), hdst]
  exact k _ (ha.put hd undef)
 step_ := fun hg h a ha => wpList_plain hg fun K hK => h K (fun a' ρ' w' ha' hr => hK a' w' (hr a' ha')) a ha
theorem W.region {id : Nat} {l : List Oper} (h : (wl P l.toArray Q n).S l ρ w) : W P (.region id l.toArray false) Q n ρ w := fun a ha => wp_region_lit (h a ha)
theorem WL.nil {ops : Array Oper} (h : WX Q .normal n ρ w) : (wl P ops Q n).S [] ρ w := fun a ha => wpList_nil (h a ha)
/-! ### exits -/
theorem WX.next {y : Code} (h : W P y Q n ρ w) : WX (Exit.then (y.wp P Q) Q) .normal n ρ w := fun a ha => h a ha
theorem WX.thenExit {K : Act → World → Prop} {id : Nat} (h : WX Q (.exit id) n ρ w) : WX (Exit.then K Q) (.exit id) n ρ w := fun a ha => h a ha
theorem WX.thenRet {K : Act → World → Prop} (h : WX Q .ret n ρ w) : WX (Exit.then K Q) .ret n ρ w := fun a ha => h a ha
theorem WX.blockNormal {id : Nat} (h : WX Q .normal n ρ w) : WX (Exit.inBlock id Q) .normal n ρ w := fun a ha => h a ha
theorem WX.blockRet {id : Nat} (h : WX Q .ret n ρ w) : WX (Exit.inBlock id Q) .ret n ρ w := fun a ha => h a ha
theorem WX.blockHere {id : Nat} (h : WX Q .normal n ρ w) : WX (Exit.inBlock id Q) (.exit id) n ρ w := fun a ha => by
 simp only [Exit.inBlock, if_true]; exact h a ha
theorem WX.blockPast {id id' : Nat} (hne : Nat.beq id' id = false) (h : WX Q (.exit id') n ρ w) : WX (Exit.inBlock id Q) (.exit id') n ρ w := fun a ha => by
 have : ¬ id' = id := Nat.ne_of_beq_eq_false hne
 simp only [Exit.inBlock, this, if_false]; exact h a ha
theorem WX.scopeRet (h : WX Q .ret n ρ w) : WX (Exit.noGoto Q) .ret n ρ w := fun a ha => h a ha
theorem WX.ret1 {fn : Func} {R : Value → World → Prop} {t : Tmp} {v : Value} (hr : fn.results = #[.tmp t]) (hv : envGet ρ t = some v) (h : R v w) : WX (Done P fn R) .ret n ρ w := fun a ha =>
 ⟨ha.defers, v, by rw [results_tmp hr, ha.tmp hv], v, rfl, h⟩
theorem WX.ret2 {fn : Func} {R : Value → World → Prop} {t u : Tmp} {v1 v2 : Value} (hr : fn.results = #[.tmp t, .tmp u]) (h1 : envGet ρ t = some v1) (h2 : envGet ρ u = some v2) (h : R (.tuple #[v1, v2]) w) :
 WX (Done P fn R) .ret n ρ w := fun a ha => ⟨ha.defers, _, by rw [results_tmp2 hr, ha.tmp h1, ha.tmp h2], _, rfl, h⟩
theorem WX.ret3 {fn : Func} {R : Value → World → Prop} {t u s : Tmp} {v1 v2 v3 : Value} (hr : fn.results = #[.tmp t, .tmp u, .tmp s]) (h1 : envGet ρ t = some v1) (h2 : envGet ρ u = some v2) (h3 : envGet ρ s = some v3)
 (h : R (.tuple #[v1, v2, v3]) w) : WX (Done P fn R) .ret n ρ w := fun a ha => ⟨ha.defers, _, by rw [results_tmp3 hr, ha.tmp h1, ha.tmp h2, ha.tmp h3], _, rfl, h⟩
theorem WX.end0 {fn : Func} {R : Value → World → Prop} (hr : fn.results = #[]) (h : R (.tuple #[]) w) : WX (Done P fn R) .normal n ρ w := fun _ ha =>
 ⟨ha.defers, _, results_none hr _ _ _, _, rfl, h⟩
theorem WX.ret0 {fn : Func} {R : Value → World → Prop} (hr : fn.results = #[]) (h : R (.tuple #[]) w) : WX (Done P fn R) .ret n ρ w := fun _ ha =>
 ⟨ha.defers, _, results_none hr _ _ _, _, rfl, h⟩
/-! ### loops -/
/-- The head of a loop: the frame, the facts and the measure of some state i. -/
def Head (n : Nat) {ι : Type} (ρI : ι → List (Nat × Value)) (F : ι → World → Prop) (μ : ι → Nat) (m : Nat) (a : Act) (w : World) : Prop :=
 ∃ i, St n (ρI i) a ∧ F i w ∧ μ i < m
theorem least {p : Nat → Prop} (h : ∃ m, p m) : ∃ m, p m ∧ ∀ k, p k → m ≤ k := by
 obtain ⟨m, hm⟩ := h
 induction m using Nat.strongRecOn with
 | _ m ih =>
   by_cases hk : ∃ k, k < m ∧ p k
   ·obtain ⟨k, hlt, hp⟩ := hk
    exact ih k hlt hp
   ·exact ⟨m, hm, fun k hp => Nat.le_of_not_lt fun hlt => hk ⟨k, hlt, hp⟩⟩
theorem W.loop {ι : Type} (ρI : ι → List (Nat × Value)) (F : ι → World → Prop) (μ : ι → Nat) {c : Code} (i : ι) (hρ : envSub ρ (ρI i)) (hF : F i w)
 (h : ∀ i w, F i w → W P c (Exit.then (Head n ρI F μ (μ i)) Q) n (ρI i) w) : W P (.loop c) Q n ρ w := by
 classical
 intro a ha
 let I : Act → World → Nat → Prop := fun a w m => ∃ i, St n (ρI i) a ∧ F i w ∧ μ i = m
 refine wp_loop (fun a w => ∃ m, I a w m) (fun a w => if hm : ∃ m, I a w m then Classical.choose (least hm) else 0) ⟨μ i, i, ha.sub hρ, hF, rfl⟩ ?_
 intro a w hI
 obtain ⟨⟨j, hj1, hj2, hj3⟩, _⟩ := Classical.choose_spec (least hI)
 refine Code.wp_mono (fun e a' w' q => ?_) (h j w hj2 a hj1)
 cases e with
 | normal =>
   obtain ⟨i', h1, h2, h3⟩ := q
   have hI' : ∃ m, I a' w' m := ⟨μ i', i', h1, h2, rfl⟩
   refine ⟨hI', ?_⟩
   rw [dif_pos hI', dif_pos hI]
   have hle := (Classical.choose_spec (least hI')).2 (μ i') ⟨i', h1, h2, rfl⟩
   omega
 | _ => exact q
theorem WX.round {ι : Type} {ρI : ι → List (Nat × Value)} {F : ι → World → Prop} {μ : ι → Nat} {m : Nat} (i : ι) (hρ : envSub ρ (ρI i)) (hF : F i w) (hm : μ i < m) :
 WX (Exit.then (Head n ρI F μ m) Q) .normal n ρ w := fun _ ha => ⟨i, ha.sub hρ, hF, hm⟩
/-! ### a joint: what stands behind is proved once -/
/-- A cut behind x: for some state j of the joint. -/
theorem W.joint {ι : Type} (ρJ : ι → List (Nat × Value)) (F : ι → World → Prop) {x y : Code}
 (hx : W P x (Exit.then (fun a w => ∃ j, St n (ρJ j) a ∧ F j w) Q) n ρ w) (hy : ∀ j w, F j w → W P y Q n (ρJ j) w) : W P (.seq x y) Q n ρ w := fun a ha =>
 wp_seq (Code.wp_mono (fun e a' w' q => by
  cases e with
  | normal => obtain ⟨j, h1, h2⟩ := q; exact hy j w' h2 a' h1
  | _ => exact q) (hx a ha))
theorem WX.join {ι : Type} {ρJ : ι → List (Nat × Value)} {F : ι → World → Prop} (j : ι) (hρ : envSub ρ (ρJ j)) (hF : F j w) :
 WX (Exit.then (fun a w => ∃ j, St n (ρJ j) a ∧ F j w) Q) .normal n ρ w := fun _ ha => ⟨j, ha.sub hρ, hF⟩
/-! ### operations -/
variable {rest : List Oper} {X : SqV P n} {Y : Sq P n}
theorem WL.val {o : Oper} {d : Nat} {v : Value} (hg : o.guard = none) (hdst : o.dst = some d) (hd : Nat.blt d n = true)
 (hrun : ∀ a, St n ρ a → (execOp a.eval o).run P w = .ok (.value v) w) (k : X.S rest ((d, v) :: ρ) w) : X.S (o :: rest) ρ w := X.val_ hg hdst hd hrun k
theorem WL.valW {o : Oper} {d : Nat} {v : Value} {w' : World} (hg : o.guard = none) (hdst : o.dst = some d) (hd : Nat.blt d n = true)
 (hrun : ∀ a, St n ρ a → (execOp a.eval o).run P w = .ok (.value v) w') (k : Y.S rest ((d, v) :: ρ) w') : Y.S (o :: rest) ρ w :=
 Y.step_ hg fun K hK a ha => by
  unfold Oper.wp
  rw [hrun a ha, Oper.upon_value, hdst]
  exact hK _ _ _ (ha.put hd v) k
theorem WL.unit {o : Oper} {w' : World} (hg : o.guard = none) (hdst : o.dst = none)
 (hrun : ∀ a, St n ρ a → (execOp a.eval o).run P w = .ok .skip w') (k : Y.S rest ρ w') : Y.S (o :: rest) ρ w :=
 Y.step_ hg fun K hK a ha => by
  unfold Oper.wp
  rw [hrun a ha, Oper.upon_skip, hdst]
  exact hK _ _ _ ha k
theorem WL.on {d : Option Nat} {op : Op} {ty : TypeId} {pos : String} {aft : Array Edge} {j : Nat} {b : Bool} {t : Nat} (hj : (X.ops[j]?).bind (·.dst) = some t) (ht : envGet ρ t = some (.bool b))
 (k : X.S (⟨d, op, ty, pos, aft, none⟩ :: rest) ρ w) : X.S (⟨d, op, ty, pos, aft, some (j, b)⟩ :: rest) ρ w := X.on_ hj ht k
theorem WL.off {d : Nat} {op : Op} {ty : TypeId} {pos : String} {aft : Array Edge} {j : Nat} {b b' : Bool} {t : Nat} (hj : (X.ops[j]?).bind (·.dst) = some t) (ht : envGet ρ t = some (.bool b')) (hb : (b' == b) = false)
 (hd : Nat.blt d n = true) (k : X.S rest ((d, undef) :: ρ) w) : X.S (⟨some d, op, ty, pos, aft, some (j, b)⟩ :: rest) ρ w :=
 X.off_ (fun a ha => by
  have := yielded_of ha hj ht
  simp only [Region.wanted, this]
  cases b <;> cases b' <;> simp_all) rfl hd k
theorem WL.offU {d : Nat} {op : Op} {ty : TypeId} {pos : String} {aft : Array Edge} {j : Nat} {b : Bool} {t : Nat} (hj : (X.ops[j]?).bind (·.dst) = some t) (ht : envGet ρ t = some undef)
 (hd : Nat.blt d n = true) (k : X.S rest ((d, undef) :: ρ) w) : X.S (⟨some d, op, ty, pos, aft, some (j, b)⟩ :: rest) ρ w :=
 X.off_ (fun a ha => by
  have : yielded X.ops a.tmps j = none := by
   unfold yielded
   rw [hj, Option.bind_some, ha.get t _ ht]
   rfl
  simp only [Region.wanted, this]
  rfl) rfl hd k
section
variable {d : Nat} {ty : TypeId} {pos : String} {aft : Array Edge}
theorem WL.move {x : Operand} {v : Value} (hx : ev ρ x = some v) (hd : Nat.blt d n = true) (k : X.S rest ((d, v) :: ρ) w) :
 X.S (⟨some d, .move x, ty, pos, aft, none⟩ :: rest) ρ w :=
 WL.val rfl rfl hd (fun a ha => by simp [execOp, ha.eval hx]) k
theorem WL.assign {x : Operand} {v : Value} (hx : ev ρ x = some v) (hd : Nat.blt d n = true) (k : X.S rest ((d, v) :: ρ) w) :
 X.S (⟨some d, .assign x, ty, pos, aft, none⟩ :: rest) ρ w :=
 WL.val rfl rfl hd (fun a ha => by simp [execOp, ha.eval hx]) k
/-- A value that guards others: both ways. -/
theorem WL.moveIf {x : Operand} {p : Prop} [Decidable p] (hx : ev ρ x = some (.bool (decide p))) (hd : Nat.blt d n = true)
 (kt : p → X.S rest ((d, .bool true) :: ρ) w) (kf : ¬ p → X.S rest ((d, .bool false) :: ρ) w) :
 X.S (⟨some d, .move x, ty, pos, aft, none⟩ :: rest) ρ w := by
 by_cases hp : p
 ·exact WL.move hx hd (by rw [decide_eq_true hp]; exact kt hp)
 ·exact WL.move hx hd (by rw [decide_eq_false hp]; exact kf hp)
theorem WL.moveIfB {x : Operand} {b : Bool} (hx : ev ρ x = some (.bool b)) (hd : Nat.blt d n = true)
 (kt : b = true → X.S rest ((d, .bool true) :: ρ) w) (kf : b = false → X.S rest ((d, .bool false) :: ρ) w) :
 X.S (⟨some d, .move x, ty, pos, aft, none⟩ :: rest) ρ w := by
 cases b
 ·exact WL.move hx hd (kf rfl)
 ·exact WL.move hx hd (kt rfl)
theorem WL.pick {c x y : Operand} {b : Bool} {v : Value} (hc : ev ρ c = some (.bool b)) (hv : ev ρ (if b = true then x else y) = some v) (hd : Nat.blt d n = true)
 (k : X.S rest ((d, v) :: ρ) w) : X.S (⟨some d, .pick c x y, ty, pos, aft, none⟩ :: rest) ρ w :=
 WL.val rfl rfl hd (fun a ha => by
  cases b
  ·simp only [Bool.false_eq_true, if_false] at hv
   simp [execOp, ha.eval hc, asBool, ha.eval hv]
  ·simp only [if_true] at hv
   simp [execOp, ha.eval hc, asBool, ha.eval hv]) k
theorem WL.pickT {c x y : Operand} {v : Value} (hc : ev ρ c = some (.bool true)) (hv : ev ρ x = some v) (hd : Nat.blt d n = true)
 (k : X.S rest ((d, v) :: ρ) w) : X.S (⟨some d, .pick c x y, ty, pos, aft, none⟩ :: rest) ρ w := WL.pick (b := true) hc hv hd k
theorem WL.pickF {c x y : Operand} {v : Value} (hc : ev ρ c = some (.bool false)) (hv : ev ρ y = some v) (hd : Nat.blt d n = true)
 (k : X.S rest ((d, v) :: ρ) w) : X.S (⟨some d, .pick c x y, ty, pos, aft, none⟩ :: rest) ρ w := WL.pick (b := false) hc hv hd k
theorem WL.extract {x : Operand} {vs : Array Value} {i : Nat} {v : Value} (hx : ev ρ x = some (.tuple vs)) (hv : vs[i]? = some v) (hd : Nat.blt d n = true)
 (k : X.S rest ((d, v) :: ρ) w) : X.S (⟨some d, .extract x i, ty, pos, aft, none⟩ :: rest) ρ w :=
 WL.val rfl rfl hd (fun a ha => by simp [execOp, ha.eval hx, Instr.extract, hv]) k
theorem WL.call {f : FuncId} {xs : List Operand} {ts : Array TypeId} {vs : List Value} {R : Value → World → Prop} (hcall : ∀ (args : Array Value) (w : World), (callFunc f args).run P w = .ok (.enter f args) w)
 (hxs : evs ρ xs = some vs) (hc : Fn P f vs w R) (hd : Nat.blt d n = true) (k : ∀ v w', R v w' → Y.S rest ((d, v) :: ρ) w') :
 Y.S (⟨some d, .call ⟨.value (.func f), xs.toArray, ts⟩, ty, pos, aft, none⟩ :: rest) ρ w :=
 Y.step_ rfl fun K hK a ha => by
  have e := ha.evals hxs
  unfold Oper.wp
  simp only [execOp, resolve, Act.eval, Deferred.ofValue, Sem.run_bind, Sem.run_pure, Result.andThen_ok, invoke, List.map_toArray, e, Array.append_empty, Array.empty_append, hcall, Oper.upon_enter]
  exact Calls.mono hc fun _ w' ⟨v, he, r⟩ => by subst he; exact hK _ _ _ (ha.put hd v) (k v w' r)
end
end
end Go.Proofs.YtlminileigfkcaaGreat
namespace Go.Proofs.YtlminileigfkcaaGreat
open Go
theorem wI64 {e : Int} (h : -9223372036854775808 ≤ e ∧ e ≤ 9223372036854775807) : IntKind.i64.wrap e = e := IntWalk.i64_in e h
theorem wU64 {e : Int} (h : 0 ≤ e ∧ e ≤ 18446744073709551615) : IntKind.u64.wrap e = e := IntWalk.u64_in e h
theorem wU32 {e : Int} (h : 0 ≤ e ∧ e ≤ 4294967295) : IntKind.u32.wrap e = e := IntWalk.u32_in e h
theorem wU8 {e : Int} (h : 0 ≤ e ∧ e ≤ 255) : IntKind.u8.wrap e = e := IntWalk.u8_in e h
theorem mU64 (e : Int) : IntKind.u64.wrap e = e % 18446744073709551616 := by simp [IntKind.wrap, IntKind.bits, IntKind.signed]
theorem mU8 (e : Int) : IntKind.u8.wrap e = e % 256 := by simp [IntKind.wrap, IntKind.bits, IntKind.signed]
section
variable {P : Program} {n : Nat} {ρ : List (Nat × Value)} {w : World} {rest : List Oper} {X : SqV P n}
variable {d : Nat} {ty : TypeId} {pos : String} {aft : Array Edge} {x y : Operand} {t t' : TypeId} {k yk : IntKind} {i j r : Int}
theorem WL.bin {op : BinOp} {u v r : Value} (hx : ev ρ x = some u) (hy : ev ρ y = some v) (hg : eqGuard op t x y u v = pure ()) (hr : (binOp op t u v).run P w = .ok r w)
 (hd : Nat.blt d n = true) (kk : X.S rest ((d, r) :: ρ) w) : X.S (⟨some d, .binOp op t x y t', ty, pos, aft, none⟩ :: rest) ρ w :=
 WL.val rfl rfl hd (fun a ha => by simp [execOp, ha.eval hx, ha.eval hy, hg, hr]) kk
theorem WL.add (hx : ev ρ x = some (.int k i)) (hy : ev ρ y = some (.int k j)) (hr : k.wrap (i + j) = r) (hd : Nat.blt d n = true)
 (kk : X.S rest ((d, .int k r) :: ρ) w) : X.S (⟨some d, .binOp .add t x y t', ty, pos, aft, none⟩ :: rest) ρ w :=
 WL.bin hx hy (eqGuard_at_int ..) (by simp [binOp_add, Op.intArith, hr]) hd kk
theorem WL.sub' (hx : ev ρ x = some (.int k i)) (hy : ev ρ y = some (.int k j)) (hr : k.wrap (i - j) = r) (hd : Nat.blt d n = true)
 (kk : X.S rest ((d, .int k r) :: ρ) w) : X.S (⟨some d, .binOp .sub t x y t', ty, pos, aft, none⟩ :: rest) ρ w :=
 WL.bin hx hy (eqGuard_at_int ..) (by simp [binOp_sub, Op.intArith, hr]) hd kk
theorem WL.mul (hx : ev ρ x = some (.int k i)) (hy : ev ρ y = some (.int k j)) (hr : k.wrap (i * j) = r) (hd : Nat.blt d n = true)
 (kk : X.S rest ((d, .int k r) :: ρ) w) : X.S (⟨some d, .binOp .mul t x y t', ty, pos, aft, none⟩ :: rest) ρ w :=
 WL.bin hx hy (eqGuard_at_int ..) (by simp [binOp_mul, Op.intArith, hr]) hd kk
theorem WL.quo (hx : ev ρ x = some (.int k i)) (hy : ev ρ y = some (.int k j)) (hj : j ≠ 0) (hr : k.wrap (i.tdiv j) = r) (hd : Nat.blt d n = true)
 (kk : X.S rest ((d, .int k r) :: ρ) w) : X.S (⟨some d, .binOp .quo t x y t', ty, pos, aft, none⟩ :: rest) ρ w :=
 WL.bin hx hy (eqGuard_at_int ..) (by simp [binOp_quo, Op.intDiv, hj, hr]) hd kk
theorem WL.rem (hx : ev ρ x = some (.int k i)) (hy : ev ρ y = some (.int k j)) (hj : j ≠ 0) (hr : i.tmod j = r) (hd : Nat.blt d n = true)
 (kk : X.S rest ((d, .int k r) :: ρ) w) : X.S (⟨some d, .binOp .rem t x y t', ty, pos, aft, none⟩ :: rest) ρ w :=
 WL.bin hx hy (eqGuard_at_int ..) (by simp [binOp_rem, Op.intDiv, hj, hr]) hd kk
theorem quoI64 (h : 0 ≤ i ∧ i ≤ 9223372036854775807 ∧ 1 ≤ j) : IntKind.i64.wrap (i.tdiv j) = i / j := IntWalk.i64_quo i j h
theorem quoU64 (h : 0 ≤ i ∧ i ≤ 18446744073709551615 ∧ 1 ≤ j) : IntKind.u64.wrap (i.tdiv j) = i / j := IntWalk.u64_quo i j h
theorem quoU32 (h : 0 ≤ i ∧ i ≤ 4294967295 ∧ 1 ≤ j) : IntKind.u32.wrap (i.tdiv j) = i / j := IntWalk.u32_quo i j h
theorem remN (h : 0 ≤ i) : i.tmod j = i % j := IntWalk.rem_in i j h
theorem WL.lss (hx : ev ρ x = some (.int k i)) (hy : ev ρ y = some (.int k j)) (hd : Nat.blt d n = true)
 (kk : X.S rest ((d, .bool (decide (i < j))) :: ρ) w) : X.S (⟨some d, .binOp .lss t x y t', ty, pos, aft, none⟩ :: rest) ρ w :=
 WL.bin hx hy (eqGuard_at_int ..) (by simp [binOp_lss]) hd kk
theorem WL.leq (hx : ev ρ x = some (.int k i)) (hy : ev ρ y = some (.int k j)) (hd : Nat.blt d n = true)
 (kk : X.S rest ((d, .bool (decide (i ≤ j))) :: ρ) w) : X.S (⟨some d, .binOp .leq t x y t', ty, pos, aft, none⟩ :: rest) ρ w :=
 WL.bin hx hy (eqGuard_at_int ..) (by simp [binOp_leq]) hd kk
theorem WL.gtr (hx : ev ρ x = some (.int k i)) (hy : ev ρ y = some (.int k j)) (hd : Nat.blt d n = true)
 (kk : X.S rest ((d, .bool (decide (i > j))) :: ρ) w) : X.S (⟨some d, .binOp .gtr t x y t', ty, pos, aft, none⟩ :: rest) ρ w :=
 WL.bin hx hy (eqGuard_at_int ..) (by simp [binOp_gtr]) hd kk
theorem WL.geq (hx : ev ρ x = some (.int k i)) (hy : ev ρ y = some (.int k j)) (hd : Nat.blt d n = true)
 (kk : X.S rest ((d, .bool (decide (i ≥ j))) :: ρ) w) : X.S (⟨some d, .binOp .geq t x y t', ty, pos, aft, none⟩ :: rest) ρ w :=
 WL.bin hx hy (eqGuard_at_int ..) (by simp [binOp_geq]) hd kk
theorem WL.eqI (hx : ev ρ x = some (.int k i)) (hy : ev ρ y = some (.int k j)) (hd : Nat.blt d n = true)
 (kk : X.S rest ((d, .bool (decide (i = j))) :: ρ) w) : X.S (⟨some d, .binOp .eql t x y t', ty, pos, aft, none⟩ :: rest) ρ w :=
 WL.bin hx hy (eqGuard_at_int ..) (by simp only [binOp_eql, Sem.run_pure]; congr 2) hd kk
theorem WL.neI (hx : ev ρ x = some (.int k i)) (hy : ev ρ y = some (.int k j)) (hd : Nat.blt d n = true)
 (kk : X.S rest ((d, .bool (decide (i ≠ j))) :: ρ) w) : X.S (⟨some d, .binOp .neq t x y t', ty, pos, aft, none⟩ :: rest) ρ w :=
 WL.bin hx hy (eqGuard_at_int ..) (by simp only [binOp_neq, Sem.run_pure]; congr 2; by_cases h : i = j <;> simp [h]) hd kk
theorem WL.neB {a b : Bool} (ht : P.underlying t = some .bool) (hx : ev ρ x = some (.bool a)) (hy : ev ρ y = some (.bool b)) (hd : Nat.blt d n = true)
 (kk : X.S rest ((d, .bool (decide (a ≠ b))) :: ρ) w) : X.S (⟨some d, .binOp .neq t x y t', ty, pos, aft, none⟩ :: rest) ρ w :=
 WL.bin hx hy (eqGuard_at_bool ..) (by rw [run_neq_bool _ _ _ _ ht]; congr 2; cases a <;> cases b <;> rfl) hd kk
/-- A string of bytes. -/
def str (l : List UInt8) : Value := .string ⟨l.toArray⟩
theorem WL.eqS {l m : List UInt8} (hx : ev ρ x = some (str l)) (hy : ev ρ y = some (str m)) (hd : Nat.blt d n = true)
 (kk : X.S rest ((d, .bool (decide (l = m))) :: ρ) w) : X.S (⟨some d, .binOp .eql t x y t', ty, pos, aft, none⟩ :: rest) ρ w :=
 WL.bin hx hy (eqGuard_at_string ..) (by rw [str, str, binOp_string_eql]; simp only [ByteArray.toList_mk, Sem.run_pure]; congr 2; by_cases h : l = m <;> simp [h]) hd kk
theorem WL.neS {l m : List UInt8} (hx : ev ρ x = some (str l)) (hy : ev ρ y = some (str m)) (hd : Nat.blt d n = true)
 (kk : X.S rest ((d, .bool (decide (l ≠ m))) :: ρ) w) : X.S (⟨some d, .binOp .neq t x y t', ty, pos, aft, none⟩ :: rest) ρ w :=
 WL.bin hx hy (eqGuard_at_string ..) (by rw [str, str, binOp_string_neq]; simp only [ByteArray.toList_mk, Sem.run_pure]; congr 2; by_cases h : l = m <;> simp [h]) hd kk
theorem bitsAnd (k : IntKind) (a b : Nat) (ha : a < 2 ^ k.bits) (hb : b < 2 ^ k.bits) (hw : ∀ e : Int, 0 ≤ e → e < 2 ^ k.bits → k.wrap e = e) :
 bits .and k a b = ((a &&& b : Nat) : Int) := (bits_nat k k.bits (Nat.le_refl _) hw a b ha hb).1
theorem bitsOr (k : IntKind) (a b : Nat) (ha : a < 2 ^ k.bits) (hb : b < 2 ^ k.bits) (hw : ∀ e : Int, 0 ≤ e → e < 2 ^ k.bits → k.wrap e = e) :
 bits .or k a b = ((a ||| b : Nat) : Int) := (bits_nat k k.bits (Nat.le_refl _) hw a b ha hb).2
theorem bitsXor (k : IntKind) (a b : Nat) (ha : a < 2 ^ k.bits) (hb : b < 2 ^ k.bits) (hw : ∀ e : Int, 0 ≤ e → e < 2 ^ k.bits → k.wrap e = e) :
 bits .xor k a b = ((a ^^^ b : Nat) : Int) := by
 have hx : a ^^^ b < 2 ^ k.bits := Nat.xor_lt_two_pow ha hb
 have h1 : (BitVec.ofInt k.bits (a : Int)).toNat = a := by rw [BitVec.ofInt_natCast, BitVec.toNat_ofNat]; exact Nat.mod_eq_of_lt ha
 have h2 : (BitVec.ofInt k.bits (b : Int)).toNat = b := by rw [BitVec.ofInt_natCast, BitVec.toNat_ofNat]; exact Nat.mod_eq_of_lt hb
 simp only [bits, BitVec.toNat_xor, h1, h2]
 exact hw _ (by omega) (by exact_mod_cast hx)
/-- The unsigned kinds: nothing wraps below their bound. -/
theorem wrapU8 (e : Int) (h0 : 0 ≤ e) (h1 : e < 2 ^ IntKind.u8.bits) : IntKind.u8.wrap e = e := wU8 ⟨h0, by simp [IntKind.bits] at h1; omega⟩
theorem wrapU32 (e : Int) (h0 : 0 ≤ e) (h1 : e < 2 ^ IntKind.u32.bits) : IntKind.u32.wrap e = e := wU32 ⟨h0, by simp [IntKind.bits] at h1; omega⟩
theorem wrapU64 (e : Int) (h0 : 0 ≤ e) (h1 : e < 2 ^ IntKind.u64.bits) : IntKind.u64.wrap e = e := wU64 ⟨h0, by simp [IntKind.bits] at h1; omega⟩
theorem andU8 (a b : Nat) (ha : a < 256) (hb : b < 256) : bits .and .u8 a b = ((a &&& b : Nat) : Int) := bitsAnd .u8 a b ha hb wrapU8
theorem orU8 (a b : Nat) (ha : a < 256) (hb : b < 256) : bits .or .u8 a b = ((a ||| b : Nat) : Int) := bitsOr .u8 a b ha hb wrapU8
theorem andU32 (a b : Nat) (ha : a < 4294967296) (hb : b < 4294967296) : bits .and .u32 a b = ((a &&& b : Nat) : Int) := bitsAnd .u32 a b ha hb wrapU32
theorem orU32 (a b : Nat) (ha : a < 4294967296) (hb : b < 4294967296) : bits .or .u32 a b = ((a ||| b : Nat) : Int) := bitsOr .u32 a b ha hb wrapU32
theorem xorU32 (a b : Nat) (ha : a < 4294967296) (hb : b < 4294967296) : bits .xor .u32 a b = ((a ^^^ b : Nat) : Int) := bitsXor .u32 a b ha hb wrapU32
theorem andU64 (a b : Nat) (ha : a < 18446744073709551616) (hb : b < 18446744073709551616) : bits .and .u64 a b = ((a &&& b : Nat) : Int) := bitsAnd .u64 a b ha hb wrapU64
theorem orU64 (a b : Nat) (ha : a < 18446744073709551616) (hb : b < 18446744073709551616) : bits .or .u64 a b = ((a ||| b : Nat) : Int) := bitsOr .u64 a b ha hb wrapU64
theorem WL.band (hx : ev ρ x = some (.int k i)) (hy : ev ρ y = some (.int k j)) (hr : bits .and k i j = r) (hd : Nat.blt d n = true)
 (kk : X.S rest ((d, .int k r) :: ρ) w) : X.S (⟨some d, .binOp .and t x y t', ty, pos, aft, none⟩ :: rest) ρ w :=
 WL.bin hx hy (eqGuard_at_int ..) (by simp [binOp_and, intBits_and, hr]) hd kk
theorem WL.bor (hx : ev ρ x = some (.int k i)) (hy : ev ρ y = some (.int k j)) (hr : bits .or k i j = r) (hd : Nat.blt d n = true)
 (kk : X.S rest ((d, .int k r) :: ρ) w) : X.S (⟨some d, .binOp .or t x y t', ty, pos, aft, none⟩ :: rest) ρ w :=
 WL.bin hx hy (eqGuard_at_int ..) (by simp [binOp_or, intBits_or, hr]) hd kk
theorem WL.bxor (hx : ev ρ x = some (.int k i)) (hy : ev ρ y = some (.int k j)) (hr : bits .xor k i j = r) (hd : Nat.blt d n = true)
 (kk : X.S rest ((d, .int k r) :: ρ) w) : X.S (⟨some d, .binOp .xor t x y t', ty, pos, aft, none⟩ :: rest) ρ w :=
 WL.bin hx hy (eqGuard_at_int ..) (by simp [binOp_xor, intBits_xor, hr]) hd kk
theorem WL.shr (hx : ev ρ x = some (.int k i)) (hy : ev ρ y = some (.int yk j)) (h0 : 0 ≤ j) (h1 : j ≤ k.bits) (hr : i / 2 ^ j.toNat = r) (hd : Nat.blt d n = true)
 (kk : X.S rest ((d, .int k r) :: ρ) w) : X.S (⟨some d, .binOp .shr t x y t', ty, pos, aft, none⟩ :: rest) ρ w :=
 WL.bin hx hy (eqGuard_at_int ..) (by simp [binOp_shr, shift_shr k yk i j h0 h1, hr]) hd kk
theorem WL.shl (hx : ev ρ x = some (.int k i)) (hy : ev ρ y = some (.int yk j)) (h0 : 0 ≤ j) (h1 : j ≤ k.bits) (hr : k.wrap (i * 2 ^ j.toNat) = r) (hd : Nat.blt d n = true)
 (kk : X.S rest ((d, .int k r) :: ρ) w) : X.S (⟨some d, .binOp .shl t x y t', ty, pos, aft, none⟩ :: rest) ρ w :=
 WL.bin hx hy (eqGuard_at_int ..) (by simp [binOp_shl, shift_shl k yk i j h0 h1, hr]) hd kk
theorem WL.shrC (hx : ev ρ x = some (.int k i)) (hy : ev ρ y = some (.int yk j)) (s : Nat) (hs : j = s) (hk : Nat.ble s k.bits = true) (p : Int) (hp : p = 2 ^ s) (hd : Nat.blt d n = true)
 (kk : X.S rest ((d, .int k (i / p)) :: ρ) w) : X.S (⟨some d, .binOp .shr t x y t', ty, pos, aft, none⟩ :: rest) ρ w := by
 subst hs hp
 have := Nat.le_of_ble_eq_true hk
 exact WL.shr hx hy (by omega) (by omega) (by simp) hd kk
theorem WL.shlC (hx : ev ρ x = some (.int k i)) (hy : ev ρ y = some (.int yk j)) (s : Nat) (hs : j = s) (hk : Nat.ble s k.bits = true) (p : Int) (hp : p = 2 ^ s) (hr : k.wrap (i * p) = r) (hd : Nat.blt d n = true)
 (kk : X.S rest ((d, .int k r) :: ρ) w) : X.S (⟨some d, .binOp .shl t x y t', ty, pos, aft, none⟩ :: rest) ρ w := by
 subst hs hp
 have := Nat.le_of_ble_eq_true hk
 exact WL.shl hx hy (by omega) (by omega) (by simpa using hr) hd kk
theorem WL.not {b : Bool} (hx : ev ρ x = some (.bool b)) (hd : Nat.blt d n = true)
 (kk : X.S rest ((d, .bool (!b)) :: ρ) w) : X.S (⟨some d, .unOp .not t x, ty, pos, aft, none⟩ :: rest) ρ w :=
 WL.val rfl rfl hd (fun a ha => by simp [execOp, ha.eval hx, Op.unary]) kk
theorem WL.conv {src dst : TypeId} {kd : IntKind} {ds : TypeDesc} (hs : P.underlying src = some ds) (ht : P.underlying dst = some (.int kd)) (hx : ev ρ x = some (.int k i)) (hr : kd.wrap i = r) (hd : Nat.blt d n = true)
 (kk : X.S rest ((d, .int kd r) :: ρ) w) : X.S (⟨some d, .convert src dst x, ty, pos, aft, none⟩ :: rest) ρ w :=
 WL.val rfl rfl hd (fun a ha => by simp [execOp, ha.eval hx, convert, run_underlying hs, run_underlying ht, Conv.intToInt, hr]) kk
theorem WL.len {A : Option Addr} {m c : Nat} {t e : TypeId} (ht : P.underlying t = some (.slice e)) (hx : ev ρ x = some (.slice A m c)) (hd : Nat.blt d n = true)
 (kk : X.S rest ((d, .int .i64 (m : Int)) :: ρ) w) : X.S (⟨some d, .call ⟨.builtin .len, #[x], #[t]⟩, ty, pos, aft, none⟩ :: rest) ρ w :=
 WL.val rfl rfl hd (fun a ha => by simp [execOp, resolve, invoke, builtin, ha.eval hx, Builtin.len_, run_underlying ht, goInt]) kk
theorem WL.lenS {l : List UInt8} {t : TypeId} (ht : P.underlying t = some .string) (hx : ev ρ x = some (str l)) (hd : Nat.blt d n = true)
 (kk : X.S rest ((d, .int .i64 (l.length : Int)) :: ρ) w) : X.S (⟨some d, .call ⟨.builtin .len, #[x], #[t]⟩, ty, pos, aft, none⟩ :: rest) ρ w :=
 WL.val rfl rfl hd (fun a ha => by
  have e : (ByteArray.mk l.toArray).size = l.length := by simp [ByteArray.size]
  simp only [execOp, resolve, invoke, builtin, List.map_toArray, List.map_cons, List.map_nil, ha.eval hx, str, Sem.run_bind, Sem.run_pure, Result.andThen_ok, Builtin.len_, List.getElem?_toArray, List.getElem?_cons_zero, run_underlying ht, goInt, e]) kk
theorem WL.max {ts : Array TypeId} {k' : IntKind} (hx : ev ρ x = some (.int k i)) (hy : ev ρ y = some (.int k' j)) (hd : Nat.blt d n = true)
 (kk : X.S rest ((d, .int k (max i j)) :: ρ) w) : X.S (⟨some d, .call ⟨.builtin .max, #[x, y], ts⟩, ty, pos, aft, none⟩ :: rest) ρ w :=
 WL.val rfl rfl hd (fun a ha => by
  simp only [execOp, resolve, invoke, builtin, List.map_toArray, List.map_cons, List.map_nil, ha.eval hx, ha.eval hy, Sem.run_bind, Sem.run_pure, Result.andThen_ok, run_max_int2]
  congr 3
  split <;> omega) kk
theorem WL.min {ts : Array TypeId} {k' : IntKind} (hx : ev ρ x = some (.int k i)) (hy : ev ρ y = some (.int k' j)) (hd : Nat.blt d n = true)
 (kk : X.S rest ((d, .int k (min i j)) :: ρ) w) : X.S (⟨some d, .call ⟨.builtin .min, #[x, y], ts⟩, ty, pos, aft, none⟩ :: rest) ρ w :=
 WL.val rfl rfl hd (fun a ha => by
  simp only [execOp, resolve, invoke, builtin, List.map_toArray, List.map_cons, List.map_nil, ha.eval hx, ha.eval hy, Sem.run_bind, Sem.run_pure, Result.andThen_ok, run_min_int2]
  congr 3
  split <;> omega) kk
theorem WL.indexS {l : List UInt8} {b : UInt8} {t : TypeId} (ht : P.underlying t = some .string) (hx : ev ρ x = some (str l)) (hy : ev ρ y = some (.int k j)) (h0 : 0 ≤ j) (hb : l[j.toNat]? = some b) (hd : Nat.blt d n = true)
 (kk : X.S rest ((d, .int .u8 (b.toNat : Int)) :: ρ) w) : X.S (⟨some d, .index t x y, ty, pos, aft, none⟩ :: rest) ρ w :=
 WL.val rfl rfl hd (fun a ha => by
  have hb' : (ByteArray.mk l.toArray)[j.toNat]? = some b := by
   obtain ⟨h1, h2⟩ := List.getElem?_eq_some_iff.1 hb
   rw [getElem?_pos (ByteArray.mk l.toArray) j.toNat (by simpa [ByteArray.size] using h1)]
   exact congrArg some h2
  simp [execOp, ha.eval hx, ha.eval hy, Instr.index, run_underlying ht, asIntOf, h0, str, hb']) kk
end
end Go.Proofs.YtlminileigfkcaaGreat
namespace Go.Proofs.YtlminileigfkcaaGreat
open Go Go.RowKit
/-- From w to w' only the blocks of F were written, and blocks were made. -/
structure Chg (w w' : World) (F : Nat → Prop) : Prop where
 os : w'.os = w.os
 tape : w'.tape = w.tape
 output : w'.output = w.output
 size : w.heap.size ≤ w'.heap.size
 block : ∀ k, k < w.heap.size → ¬ F k → w'.heap[k]? = w.heap[k]?
def none_ : Nat → Prop := fun _ => False
theorem Chg.refl (w : World) (F : Nat → Prop) : Chg w w F := ⟨rfl, rfl, rfl, Nat.le_refl _, fun _ _ _ => rfl⟩
theorem Chg.trans {a b c : World} {F : Nat → Prop} (h : Chg a b F) (k : Chg b c F) : Chg a c F :=
 ⟨k.os.trans h.os, k.tape.trans h.tape, k.output.trans h.output, Nat.le_trans h.size k.size, fun i hi hn => (k.block i (Nat.lt_of_lt_of_le hi h.size) hn).trans (h.block i hi hn)⟩
theorem Chg.below {w w' : World} (h : Chg w w' none_) : Below w.heap.size w w' := ⟨h.os, h.tape, h.output, h.size, fun k hk => h.block k hk id⟩
theorem Chg.cell {w w' : World} {F : Nat → Prop} (h : Chg w w' F) {a : Addr} (ha : a.block < w.heap.size) (hn : ¬ F a.block) : w'.cell? a = w.cell? a :=
 World.cell?_of_block (h.block _ ha hn)
/-- Something that stands in memory: its blocks, and what is said of them. -/
structure Asr where
 foot : Nat → Prop
 holds : World → Prop
 bound : ∀ w, holds w → ∀ g, foot g → g < w.heap.size
 stays : ∀ w w', (∀ g, foot g → w'.heap[g]? = w.heap[g]?) → holds w → holds w'
/-- Block g is just o. -/
def Asr.obj (g : Nat) (o : Obj) : Asr where
 foot := fun k => k = g
 holds := fun w => w.heap[g]? = some o
 bound := fun _ h k hk => by subst hk; exact (Array.getElem?_eq_some_iff.1 h).1
 stays := fun _ _ h hh => by rw [h g rfl]; exact hh
/-- Block g is a row of cells. -/
def Asr.row (g : Nat) (t : TypeId) (cs : List Value) : Asr := Asr.obj g (.cells cs.toArray t (0, 0))
/-- What stands apart. -/
def Sep : List Asr → World → Prop
 | [], _ => True
 | A :: L, w => A.holds w ∧ (∀ B ∈ L, ∀ g, A.foot g → ¬ B.foot g) ∧ Sep L w
theorem Sep.bound : ∀ {L : List Asr} {w : World}, Sep L w → ∀ A ∈ L, ∀ g, A.foot g → g < w.heap.size
 | _ :: _, _, h, B, hB, g, hg => by
   rcases List.mem_cons.1 hB with rfl | hB
   ·exact B.bound _ h.1 g hg
   ·exact Sep.bound h.2.2 B hB g hg
theorem Sep.stays : ∀ {L : List Asr} {w w' : World}, (∀ A ∈ L, ∀ g, A.foot g → w'.heap[g]? = w.heap[g]?) → Sep L w → Sep L w'
 | [], _, _, _, _ => trivial
 | A :: L, w, w', hk, h => ⟨A.stays w w' (hk A (List.mem_cons_self ..)) h.1, h.2.1, Sep.stays (fun B hB => hk B (List.mem_cons_of_mem _ hB)) h.2.2⟩
theorem Sep.append : ∀ {L M : List Asr} {w : World}, Sep L w → Sep M w → (∀ A ∈ L, ∀ B ∈ M, ∀ g, A.foot g → ¬ B.foot g) → Sep (L ++ M) w
 | [], _, _, _, hM, _ => hM
 | A :: L, M, w, hL, hM, hd => ⟨hL.1, fun B hB g hg => by
    rcases List.mem_append.1 hB with hB | hB
    ·exact hL.2.1 B hB g hg
    ·exact hd A (List.mem_cons_self ..) B hB g hg,
    Sep.append hL.2.2 hM fun B hB => hd B (List.mem_cons_of_mem _ hB)⟩
theorem Sep.perm {L M : List Asr} (hp : L.Perm M) {w : World} (h : Sep L w) : Sep M w := by
 induction hp with
 | nil => exact h
 | cons A hp ih => exact ⟨h.1, fun B hB => h.2.1 B (hp.mem_iff.2 hB), ih h.2.2⟩
 | swap A B L =>
   obtain ⟨h1, h2, h3, h4, h5⟩ := h
   refine ⟨h3, fun C hC g hg hn => ?_, h1, fun C hC => h2 C (List.mem_cons_of_mem _ hC), h5⟩
   rcases List.mem_cons.1 hC with rfl | hC
   ·exact h2 A (List.mem_cons_self ..) g hn hg
   ·exact h4 C hC g hg hn
 | trans _ _ ih1 ih2 => exact ih2 (ih1 h)
/-- Since w0 only new blocks were written; L stands in them. -/
structure Mem (w0 w : World) (L : List Asr) : Prop where
 base : Chg w0 w none_
 sep : Sep L w
 new : ∀ A ∈ L, ∀ g, A.foot g → w0.heap.size ≤ g
section
variable {w0 w w' : World} {L : List Asr} {A : Asr}
theorem Mem.refl (w : World) : Mem w w [] := ⟨Chg.refl _ _, trivial, fun _ h => by cases h⟩
theorem Mem.head (h : Mem w0 w (A :: L)) : A.holds w := h.sep.1
theorem Mem.tail (h : Mem w0 w (A :: L)) : Mem w0 w L := ⟨h.base, h.sep.2.2, fun B hB => h.new B (List.mem_cons_of_mem _ hB)⟩
theorem Mem.perm {M : List Asr} (h : Mem w0 w L) (hp : L.Perm M) : Mem w0 w M := ⟨h.base, h.sep.perm hp, fun B hB => h.new B (hp.mem_iff.2 hB)⟩
theorem Mem.nil (h : Mem w0 w L) : Mem w0 w [] := ⟨h.base, trivial, fun _ hA => by cases hA⟩
/-- To the front. -/
theorem Mem.f1 {A B : Asr} (h : Mem w0 w (A :: B :: L)) : Mem w0 w (B :: A :: L) := h.perm (List.Perm.swap ..)
theorem Mem.f2 {A B C : Asr} (h : Mem w0 w (A :: B :: C :: L)) : Mem w0 w (C :: A :: B :: L) :=
 h.perm ((List.Perm.cons A (List.Perm.swap ..)).trans (List.Perm.swap ..))
theorem Mem.drop1 {A B : Asr} (h : Mem w0 w (A :: B :: L)) : Mem w0 w (A :: L) := h.f1.tail
/-- What turns no block that was there. -/
theorem Mem.chg (h : Mem w0 w L) (hc : Chg w w' none_) : Mem w0 w' L :=
 ⟨h.base.trans ⟨hc.os, hc.tape, hc.output, hc.size, fun k hk _ => hc.block k hk id⟩, h.sep.stays fun B hB g hg => hc.block g (h.sep.bound B hB g hg) id, h.new⟩
theorem Mem.drew (h : Mem w0 w L) : Mem w0 w.drew L := h.chg ⟨rfl, rfl, rfl, Nat.le_refl _, fun _ _ _ => rfl⟩
/-- A callee that reads, and makes. -/
theorem Mem.call {M : List Asr} (h : Mem w0 w L) (h' : Mem w w' M) : Mem w0 w' (M ++ L) := by
 have hw := h.chg h'.base
 refine ⟨hw.base, h'.sep.append hw.sep fun B hB C hC g hg hn => ?_, fun B hB g hg => ?_⟩
 ·have h1 := h'.new B hB g hg
  have h2 := h.sep.bound C hC g hn
  omega
 ·rcases List.mem_append.1 hB with hB | hB
  ·have h1 := h'.new B hB g hg
   have h2 := h.base.size
   omega
  ·exact h.new B hB g hg
theorem Mem.alloc (h : Mem w0 w L) (o : Obj) : Mem w0 (w.alloc o) (Asr.obj w.heap.size o :: L) := by
 have h1 : Mem w (w.alloc o) [Asr.obj w.heap.size o] :=
  ⟨⟨rfl, rfl, rfl, by simp, fun k hk _ => Below.heap_alloc w o k hk⟩, ⟨Go.heap_alloc_new w o, (fun B hB => by cases hB), trivial⟩, fun B hB g hg => by
   rw [List.mem_singleton] at hB
   subst hB
   have hg' : g = w.heap.size := hg
   omega⟩
 exact h.call h1
/-- What stands in front is written. -/
theorem Mem.write {B : Asr} (h : Mem w0 w (A :: L)) (hc : Chg w w' A.foot) (hB : B.holds w') (hf : ∀ g, B.foot g → A.foot g ∨ w.heap.size ≤ g) : Mem w0 w' (B :: L) := by
 have hnew : ∀ k, A.foot k → w0.heap.size ≤ k := h.new A (List.mem_cons_self ..)
 refine ⟨⟨hc.os.trans h.base.os, hc.tape.trans h.base.tape, hc.output.trans h.base.output, Nat.le_trans h.base.size hc.size, fun k hk _ => ?_⟩, ⟨hB, fun C hC g hg hn => ?_, ?_⟩, fun C hC g hg => ?_⟩
 ·rw [hc.block k (Nat.lt_of_lt_of_le hk h.base.size) (fun hf => by have := hnew k hf; omega)]
  exact h.base.block k hk id
 ·rcases hf g hg with hA | hge
  ·exact h.sep.2.1 C hC g hA hn
  ·have := h.sep.bound C (List.mem_cons_of_mem _ hC) g hn
   omega
 ·exact h.sep.2.2.stays fun C hC g hg => hc.block g (h.sep.bound C (List.mem_cons_of_mem _ hC) g hg) fun hA => h.sep.2.1 C hC g hA hg
 ·rcases List.mem_cons.1 hC with rfl | hC
  ·rcases hf g hg with hA | hge
   ·exact hnew g hA
   ·have := h.base.size
    omega
  ·exact h.new C (List.mem_cons_of_mem _ hC) g hg
theorem Mem.set {g : Nat} {t : TypeId} {cs : List Value} (h : Mem w0 w (Asr.row g t cs :: L)) (i : Nat) (v : Value) :
 Mem w0 (w.setCell ⟨g, i, none⟩ v) (Asr.row g t (cs.set i v) :: L) := by
 have hg : w.heap[g]? = some (.cells cs.toArray t (0, 0)) := h.head
 refine h.write ⟨rfl, rfl, rfl, by simp, fun k _ hn => heap_setCell_other w ⟨g, i, none⟩ k v (fun e => hn e)⟩ ?_ (fun _ hf => .inl hf)
 have := heap_setCell_same w g i cs.toArray t v hg
 simpa [Asr.row, Asr.obj] using this
theorem Mem.cell {g : Nat} {t : TypeId} {cs : List Value} (h : Mem w0 w (Asr.row g t cs :: L)) (i : Nat) : w.cell? ⟨g, i, none⟩ = cs[i]? := by
 have hg : w.heap[g]? = some (.cells cs.toArray t (0, 0)) := h.head
 rw [cell_of_row w g i _ t _ hg]
 simp
theorem Mem.frozen {g : Nat} {t : TypeId} {cs : List Value} (h : Mem w0 w (Asr.row g t cs :: L)) (i : Nat) : w.frozen? ⟨g, i, none⟩ = false :=
 frozen_of_row w g i _ t h.head
end
/-! ### slices that can be read -/
theorem add_block (a : Addr) (n : Nat) : (a.add n).block = a.block := by unfold Addr.add; split <;> rfl
theorem add_add (a : Addr) (i j : Nat) : (a.add i).add j = a.add (i + j) := by
 unfold Addr.add
 by_cases hi : i = 0 <;> by_cases hj : j = 0 <;> simp [hi, hj, Nat.add_assoc]
theorem add_lit (b o n : Nat) : Addr.add ⟨b, o, none⟩ n = ⟨b, o + n, none⟩ := Addr.add_lit b o n
/-- The slice '.slice A n cap' of elements of 'size' cells holds the cells vs. -/
structure Rd (w : World) (A : Option Addr) (n cap size : Nat) (vs : List Value) : Prop where
 len : vs.length = n * size
 le : n ≤ cap
 at_ : 0 < n → ∃ ad, A = some ad ∧ ad.block < w.heap.size ∧ ∀ j v, vs[j]? = some v → w.cell? (ad.add j) = some v
section
variable {w w' : World} {A : Option Addr} {n cap size : Nat} {vs : List Value}
theorem Rd.chg {F : Nat → Prop} (h : Rd w A n cap size vs) (hc : Chg w w' F) (hF : ∀ ad, A = some ad → ¬ F ad.block) : Rd w' A n cap size vs :=
 ⟨h.len, h.le, fun hn => by
  obtain ⟨ad, e, hb, hcell⟩ := h.at_ hn
  refine ⟨ad, e, Nat.lt_of_lt_of_le hb hc.size, fun j v hv => ?_⟩
  rw [hc.cell (by rw [add_block]; exact hb) (by rw [add_block]; exact hF ad e)]
  exact hcell j v hv⟩
theorem Rd.mem {L : List Asr} (h : Rd w A n cap size vs) (hm : Mem w w' L) : Rd w' A n cap size vs := h.chg hm.base fun _ _ => id
theorem Rd.nil (w : World) (c size : Nat) : Rd w none 0 c size [] := ⟨by simp, Nat.zero_le _, fun h => by omega⟩
/-- 'x[l:h]' -/
theorem Rd.cut (h : Rd w A n cap size vs) {l m : Nat} (hlm : l ≤ m) (hm : m ≤ n) :
 Rd w (if cap = l then A else A.map (·.add (l * size))) (m - l) (cap - l) size ((vs.drop (l * size)).take ((m - l) * size)) := by
 refine ⟨?_, by have := h.le; omega, fun hn => ?_⟩
 ·have h1 := h.len
  have h2 : m * size ≤ n * size := Nat.mul_le_mul_right _ hm
  have h3 : (m - l) * size = m * size - l * size := Nat.sub_mul ..
  have h4 : l * size ≤ m * size := Nat.mul_le_mul_right _ hlm
  simp only [List.length_take, List.length_drop]
  omega
 ·obtain ⟨ad, e, hb, hcell⟩ := h.at_ (by omega)
  have hne : ¬ cap = l := by have := h.le; omega
  rw [if_neg hne, e]
  refine ⟨_, rfl, by rw [add_block]; exact hb, fun j v hv => ?_⟩
  rw [add_add]
  refine hcell _ v ?_
  rw [List.getElem?_take] at hv
  split at hv
  ·simpa using hv
  ·cases hv
end
/-! ### bytes -/
def bv (u : UInt8) : Value := .int .u8 (u.toNat : Int)
def bs (l : List UInt8) : List Value := l.map bv
theorem bs_length (l : List UInt8) : (bs l).length = l.length := by simp [bs]
theorem bs_get (l : List UInt8) (j : Nat) : (bs l)[j]? = (l[j]?).map bv := by simp [bs]
theorem bs_append (l m : List UInt8) : bs (l ++ m) = bs l ++ bs m := by simp [bs]
theorem bs_drop (l : List UInt8) (k : Nat) : (bs l).drop k = bs (l.drop k) := by simp [bs]
theorem bs_take (l : List UInt8) (k : Nat) : (bs l).take k = bs (l.take k) := by simp [bs]
theorem bs_set (l : List UInt8) (k : Nat) (u : UInt8) : (bs l).set k (bv u) = bs (l.set k u) := by simp [bs, List.map_set]
/-- A slice of bytes that reads as l. -/
def RdB (w : World) (A : Option Addr) (cap : Nat) (l : List UInt8) : Prop := Rd w A l.length cap 1 (bs l)
section
variable {w w' : World} {A : Option Addr} {cap : Nat} {l : List UInt8}
theorem RdB.mem {L : List Asr} (h : RdB w A cap l) (hm : Mem w w' L) : RdB w' A cap l := Rd.mem h hm
theorem RdB.cut (h : RdB w A cap l) {i j : Nat} (hij : i ≤ j) (hj : j ≤ l.length) :
 RdB w (if cap = i then A else A.map (·.add (i * 1))) (cap - i) ((l.drop i).take (j - i)) := by
 have := Rd.cut h hij hj
 have e : ((l.drop i).take (j - i)).length = j - i := by simp; omega
 unfold RdB
 rw [e, ← bs_take, ← bs_drop]
 simpa using this
end
/-! ### operations -/
section
variable {P : Program} {n : Nat} {ρ : List (Nat × Value)} {w0 w : World} {rest : List Oper} {L : List Asr} {X : SqV P n} {Y : Sq P n}
variable {d : Nat} {ty : TypeId} {pos : String} {aft : Array Edge} {x y : Operand} {t t' e : TypeId} {k yk : IntKind} {i j r : Int}
/-- 'x[j]': where it lies. -/
theorem WL.idx {A : Option Addr} {m c size : Nat} {vs : List Value} (ht : P.underlying t = some (.slice e)) (hs : ∀ w, (sizeOf e).run P w = .ok size w) (hx : ev ρ x = some (.slice A m c)) (hy : ev ρ y = some (.int k j))
 (h : Rd w A m c size vs) (h0 : 0 ≤ j) (h1 : j < m) (hd : Nat.blt d n = true)
 (kk : ∀ ad, ad.block < w.heap.size → (∀ o, o < size → w.cell? (ad.add o) = vs[j.toNat * size + o]?) → X.S rest ((d, .pointer (some ad)) :: ρ) w) :
 X.S (⟨some d, .indexAddr t x y, ty, pos, aft, none⟩ :: rest) ρ w := by
 obtain ⟨ad, rfl, hb, hc⟩ := h.at_ (by omega)
 refine WL.val (v := .pointer (some (ad.add (j.toNat * size)))) rfl rfl hd (fun a ha => ?_) (kk _ (by rw [add_block]; exact hb) fun o ho => ?_)
 ·simp [execOp, ha.eval hx, ha.eval hy, Instr.indexAt, run_underlying ht, asIntOf, h0, h1, hs]
 ·rw [add_add]
  have hlt : j.toNat * size + o < vs.length := by
   rw [h.len]
   have : (j.toNat + 1) * size ≤ m * size := Nat.mul_le_mul_right _ (by omega)
   rw [Nat.add_mul] at this
   omega
  rw [List.getElem?_eq_getElem hlt]
  exact hc _ _ (List.getElem?_eq_getElem hlt)
/-- 'x[j]' of bytes. -/
theorem WL.idxB {A : Option Addr} {c m : Nat} {l : List UInt8} (ht : P.underlying t = some (.slice e)) (hs : ∀ w, (sizeOf e).run P w = .ok 1 w) (hx : ev ρ x = some (.slice A m c)) (hy : ev ρ y = some (.int k j))
 (h : RdB w A c l) (hm : m = l.length) (h0 : 0 ≤ j) (h1 : j < l.length) (hd : Nat.blt d n = true)
 (kk : ∀ ad, w.cell? ad = some (bv (l[j.toNat]'(by omega))) → X.S rest ((d, .pointer (some ad)) :: ρ) w) :
 X.S (⟨some d, .indexAddr t x y, ty, pos, aft, none⟩ :: rest) ρ w := by
 subst hm
 refine WL.idx ht hs hx hy h h0 h1 hd fun ad _ hc => kk ad ?_
 have := hc 0 (by omega)
 simp only [Nat.mul_one, Nat.add_zero, bs_get] at this
 rw [show ad.add 0 = ad by simp [Addr.add]] at this
 rw [this, List.getElem?_eq_getElem (by omega)]
 rfl
/-- 'x[j]' where x lies at cell o of a block: the address itself. -/
theorem WL.idxAt {g o : Nat} {m c size : Nat} (ht : P.underlying t = some (.slice e)) (hs : ∀ w, (sizeOf e).run P w = .ok size w) (hx : ev ρ x = some (.slice (some ⟨g, o, none⟩) m c)) (hy : ev ρ y = some (.int k j))
 (h0 : 0 ≤ j) (h1 : j < m) {o' : Nat} (ho : o + j.toNat * size = o') (hd : Nat.blt d n = true)
 (kk : X.S rest ((d, .pointer (some ⟨g, o', none⟩)) :: ρ) w) :
 X.S (⟨some d, .indexAddr t x y, ty, pos, aft, none⟩ :: rest) ρ w := by
 subst ho
 exact WL.val rfl rfl hd (fun a ha => by simp [execOp, ha.eval hx, ha.eval hy, Instr.indexAt, run_underlying ht, asIntOf, h0, h1, hs, add_lit]) kk
/-- 'x[j]' where the address is at hand. -/
theorem WL.idxP {ad : Addr} {m c size : Nat} (ht : P.underlying t = some (.slice e)) (hs : ∀ w, (sizeOf e).run P w = .ok size w) (hx : ev ρ x = some (.slice (some ad) m c)) (hy : ev ρ y = some (.int k j))
 (h0 : 0 ≤ j) (h1 : j < m) {o' : Nat} (ho : j.toNat * size = o') (hd : Nat.blt d n = true)
 (kk : X.S rest ((d, .pointer (some (ad.add o'))) :: ρ) w) : X.S (⟨some d, .indexAddr t x y, ty, pos, aft, none⟩ :: rest) ρ w := by
 subst ho
 exact WL.val rfl rfl hd (fun a ha => by simp [execOp, ha.eval hx, ha.eval hy, Instr.indexAt, run_underlying ht, asIntOf, h0, h1, hs]) kk
theorem WL.load {ad : Addr} {v : Value} (hA : ∀ w, (isAgg t).run P w = .ok false w) (hx : ev ρ x = some (.pointer (some ad))) (hc : w.cell? ad = some v) (hd : Nat.blt d n = true)
 (kk : X.S rest ((d, v) :: ρ) w) : X.S (⟨some d, .load t x, ty, pos, aft, none⟩ :: rest) ρ w :=
 WL.val rfl rfl hd (fun a ha => by simp [execOp, ha.eval hx, Instr.loadAt, Instr.sureAddr, loadVar, hA, hc]) kk
theorem WL.fieldAddr {ad : Addr} {fs : Array Field} {f : Field} {fi : Nat} (ht : P.underlying t = some (.struct fs)) (hf : fs[fi]? = some f) (hx : ev ρ x = some (.pointer (some ad)))
 (hr : ∀ w, (fieldPlace ad f).run P w = .ok (ad.add f.offset) w) (hd : Nat.blt d n = true)
 (kk : X.S rest ((d, .pointer (some (ad.add f.offset))) :: ρ) w) : X.S (⟨some d, .fieldAddr t x fi, ty, pos, aft, none⟩ :: rest) ρ w :=
 WL.val rfl rfl hd (fun a ha => by simp [execOp, ha.eval hx, Instr.fieldAt, run_underlying ht, hf, Instr.sureAddr, hr]) kk
theorem WL.nilCheck {ad : Addr} (hx : ev ρ x = some (.pointer (some ad))) (hd : Nat.blt d n = true)
 (kk : X.S rest ((d, .pointer (some ad)) :: ρ) w) : X.S (⟨some d, .nilCheck x, ty, pos, aft, none⟩ :: rest) ρ w :=
 WL.val rfl rfl hd (fun a ha => by simp [execOp, ha.eval hx]) kk
/-- A store of one cell into what stands in front. -/
theorem WL.store {g o : Nat} {te : TypeId} {cs : List Value} {v : Value} (M : Mem w0 w (Asr.row g te cs :: L)) (hs : ∀ w, (sizeOf t).run P w = .ok 1 w) (hx : ev ρ x = some (.pointer (some ⟨g, o, none⟩))) (hy : ev ρ y = some v)
 (hv : v.oneCell' = true) (ho : o < cs.length) (kk : ∀ w', Mem w0 w' (Asr.row g te (cs.set o v) :: L) → Y.S rest ρ w') :
 Y.S (⟨none, .store t x y, ty, pos, aft, none⟩ :: rest) ρ w := by
 refine WL.unit rfl rfl (fun a ha => ?_) (kk _ (M.set o v))
 have hc : w.cell? ⟨g, o, none⟩ = some cs[o] := by rw [M.cell]; exact List.getElem?_eq_getElem ho
 have hfr := M.frozen o
 have hcells : v.cells = #[v] := by cases v <;> first | rfl | simp [Value.oneCell'] at hv
 simp [execOp, ha.eval hx, ha.eval hy, Instr.storeAt, Instr.sureAddr, storeVar, hs, hcells, storeCells, run_store _ _ _ _ _ hv, hc, hfr, Addr.add_zero']
/-- A slice of a slice that can be read. -/
theorem WL.sliceLH {A : Option Addr} {c m size : Nat} {vs : List Value} {lo hi : Operand} {kl kh : IntKind} {a b : Int} (ht : P.underlying t = some (.slice e)) (hs : ∀ w, (sizeOf e).run P w = .ok size w) (hx : ev ρ x = some (.slice A m c))
 (hl : ev ρ lo = some (.int kl a)) (hh : ev ρ hi = some (.int kh b)) (h : Rd w A m c size vs) (h0 : 0 ≤ a) (h1 : a ≤ b) (h2 : b ≤ m) (hd : Nat.blt d n = true)
 (kk : ∀ A', Rd w A' (b.toNat - a.toNat) (c - a.toNat) size ((vs.drop (a.toNat * size)).take ((b.toNat - a.toNat) * size)) → X.S rest ((d, .slice A' (b.toNat - a.toNat) (c - a.toNat)) :: ρ) w) :
 X.S (⟨some d, .slice t x (some lo) (some hi) none, ty, pos, aft, none⟩ :: rest) ρ w := by
 have hle := h.le
 refine WL.val rfl rfl hd (fun f hf => ?_) (kk _ (h.cut (l := a.toNat) (m := b.toNat) (by omega) (by omega)))
 have eb : (b.toNat : Int) = b := Int.toNat_of_nonneg (by omega)
 simp [execOp, hf.eval hx, hf.eval hl, hf.eval hh, Instr.sliceAt, Instr.slice, run_underlying ht, Instr.sliceBounds, run_sliceBound, hs, eb, h0, h1, (by omega : 0 ≤ b), (by omega : b ≤ c)]
/-- Its address written out; what is there is asked elsewhere. -/
theorem WL.sliceLHX {A A' : Option Addr} {c m size m' c' : Nat} {lo hi : Operand} {kl kh : IntKind} {a b : Int} (ht : P.underlying t = some (.slice e)) (hs : ∀ w, (sizeOf e).run P w = .ok size w) (hx : ev ρ x = some (.slice A m c))
 (hl : ev ρ lo = some (.int kl a)) (hh : ev ρ hi = some (.int kh b)) (h0 : 0 ≤ a) (h1 : a ≤ b) (h2 : b ≤ c) (hA : (if c = a.toNat then A else A.map (·.add (a.toNat * size))) = A') (hm : b.toNat - a.toNat = m') (hc : c - a.toNat = c') (hd : Nat.blt d n = true)
 (kk : X.S rest ((d, .slice A' m' c') :: ρ) w) :
 X.S (⟨some d, .slice t x (some lo) (some hi) none, ty, pos, aft, none⟩ :: rest) ρ w := by
 subst hA hm hc
 refine WL.val rfl rfl hd (fun f hf => ?_) kk
 have eb : (b.toNat : Int) = b := Int.toNat_of_nonneg (by omega)
 simp [execOp, hf.eval hx, hf.eval hl, hf.eval hh, Instr.sliceAt, Instr.slice, run_underlying ht, Instr.sliceBounds, run_sliceBound, hs, eb, h0, h1, (by omega : 0 ≤ b), (by omega : b ≤ c)]
/-- The same of bytes. -/
theorem WL.sliceLHB {A : Option Addr} {c m : Nat} {l : List UInt8} {lo hi : Operand} {kl kh : IntKind} {a b : Int} (ht : P.underlying t = some (.slice e)) (hs : ∀ w, (sizeOf e).run P w = .ok 1 w) (hx : ev ρ x = some (.slice A m c))
 (hl : ev ρ lo = some (.int kl a)) (hh : ev ρ hi = some (.int kh b)) (h : RdB w A c l) (hm : m = l.length) (h0 : 0 ≤ a) (h1 : a ≤ b) (h2 : b ≤ l.length) (hd : Nat.blt d n = true)
 (kk : ∀ A' (L : List UInt8), L = (l.drop a.toNat).take (b.toNat - a.toNat) → L.length = b.toNat - a.toNat → RdB w A' (c - a.toNat) L → X.S rest ((d, .slice A' L.length (c - a.toNat)) :: ρ) w) :
 X.S (⟨some d, .slice t x (some lo) (some hi) none, ty, pos, aft, none⟩ :: rest) ρ w := by
 subst hm
 have hL : ((l.drop a.toNat).take (b.toNat - a.toNat)).length = b.toNat - a.toNat := by simp; omega
 refine WL.sliceLH ht hs hx hl hh h h0 h1 h2 hd fun A' hA' => ?_
 have := kk A' _ rfl hL (by
  unfold RdB
  rw [hL, ← bs_take, ← bs_drop]
  simpa using hA')
 rwa [hL] at this
/-- 'x[:b]' up to the capacity: the value alone. -/
theorem WL.sliceUpTo {A : Option Addr} {c m size : Nat} {hi : Operand} {kh : IntKind} {b : Int} (ht : P.underlying t = some (.slice e)) (hs : ∀ w, (sizeOf e).run P w = .ok size w) (hx : ev ρ x = some (.slice A m c))
 (hh : ev ρ hi = some (.int kh b)) (h1 : 0 ≤ b) (h2 : b ≤ c) (hd : Nat.blt d n = true)
 (kk : X.S rest ((d, .slice A b.toNat c) :: ρ) w) :
 X.S (⟨some d, .slice t x none (some hi) none, ty, pos, aft, none⟩ :: rest) ρ w := by
 refine WL.val rfl rfl hd (fun f hf => ?_) kk
 have hA : (if c = 0 then A else A.map (·.add 0)) = A := by
  split
  ·rfl
  ·cases A <;> simp [Addr.add]
 simp [execOp, hf.eval hx, hf.eval hh, Instr.sliceAt, Instr.slice, run_underlying ht, Instr.sliceBounds, run_sliceBound, hs, h1, h2, hA]
/-- 'string(x)' of bytes. -/
theorem WL.toStr {A : Option Addr} {c m : Nat} {l : List UInt8} {src dst : TypeId} (hs : P.underlying src = some (.slice e)) (he : P.underlying e = some (.int .u8)) (ht : P.underlying dst = some .string) (hx : ev ρ x = some (.slice A m c))
 (h : RdB w A c l) (hm : m = l.length) (hd : Nat.blt d n = true) (kk : X.S rest ((d, str l) :: ρ) w) :
 X.S (⟨some d, .convert src dst x, ty, pos, aft, none⟩ :: rest) ρ w := by
 subst hm
 refine WL.val rfl rfl hd (fun f hf => ?_) kk
 have key : (convert src dst (.slice A l.length c)).run P w = .ok (str l) w := by
  rw [run_convert_bytes_string w src dst e A _ c hs he ht]
  by_cases hl : 0 < l.length
  ·obtain ⟨ad, rfl, _, hc⟩ := h.at_ hl
   have hld := run_loadCells_list (P := P) w ad (bs l) hc
   rw [bs_length] at hld
   have e1 : bs l = (l.map fun u => ((u.toNat : Nat) : Int)).map (Value.int .u8) := by simp [bs, bv]
   rw [e1] at hld
   rw [run_bytesToString w ad _ c _ hld, foldl_push_bytes]
   have e2 : ((l.map fun u => ((u.toNat : Nat) : Int)).map fun n => UInt8.ofNat n.toNat) = l := by
    rw [List.map_map]
    conv => rhs; rw [← List.map_id l]
    exact List.map_congr_left fun u _ => by simp
   rw [e2]
   simp [str, ByteArray.empty, ByteArray.emptyWithCapacity]
   rfl
  ·have : l = [] := List.eq_nil_of_length_eq_zero (by omega)
   subst this
   have hne : ∀ A : Option Addr, (Conv.bytesToString (.slice A ([] : List UInt8).length c)).run P w = .ok (str []) w := by
    intro A
    cases A with
    | none => rfl
    | some ad =>
      have hld := run_loadCells_list (P := P) w ad [] (fun j v hv => by simp at hv)
      have := run_bytesToString (P := P) w ad 0 c [] (by simpa using hld)
      simp only [List.foldl_nil] at this
      exact this
   exact hne A
 simp [execOp, hf.eval hx, key]
end
end Go.Proofs.YtlminileigfkcaaGreat
namespace Go.Proofs.YtlminileigfkcaaGreat
open Go Go.RowKit
/-- The slice '.slice A n cap' is the only one over its block (or nil); it holds the cells vs. -/
def Asr.own (e : TypeId) (size : Nat) (A : Option Addr) (n cap : Nat) (vs : List Value) : Asr where
 foot := fun k => A.map (·.block) = some k
 holds := fun w => vs.length = n * size ∧ ((A = none ∧ n = 0 ∧ cap = 0) ∨
  ∃ g sp, A = some ⟨g, 0, none⟩ ∧ w.heap[g]? = some (.cells (vs ++ sp).toArray e (0, 0)) ∧ (vs ++ sp).length = cap * size ∧ cap ≤ maxLen ∧ n ≤ cap)
 bound := fun w h k hk => by
  rcases h.2 with ⟨rfl, _⟩ | ⟨g, sp, rfl, hg, _⟩
  ·cases hk
  ·have : g = k := by simpa using hk
   subst this
   exact (Array.getElem?_eq_some_iff.1 hg).1
 stays := fun w w' hk h => by
  refine ⟨h.1, ?_⟩
  rcases h.2 with h0 | ⟨g, sp, rfl, hg, r⟩
  ·exact .inl h0
  ·exact .inr ⟨g, sp, rfl, by rw [hk g rfl]; exact hg, r⟩
section
variable {w0 w : World} {L : List Asr} {e : TypeId} {size n cap : Nat} {A : Option Addr} {vs : List Value}
theorem Mem.nilOwn (h : Mem w0 w L) (e : TypeId) (size : Nat) : Mem w0 w (Asr.own e size none 0 0 [] :: L) :=
 ⟨h.base, ⟨⟨by simp, .inl ⟨rfl, rfl, rfl⟩⟩, (fun _ _ _ hg => by cases hg), h.sep⟩, fun B hB g hg => by
  rcases List.mem_cons.1 hB with rfl | hB
  ·cases hg
  ·exact h.new B hB g hg⟩
theorem Mem.rdOwn (h : Mem w0 w (Asr.own e size A n cap vs :: L)) : Rd w A n cap size vs := by
 obtain ⟨hl, h2⟩ := h.head
 rcases h2 with ⟨rfl, rfl, rfl⟩ | ⟨g, sp, rfl, hg, hc, _, hn⟩
 ·exact ⟨hl, Nat.le_refl _, fun h => by omega⟩
 ·refine ⟨hl, hn, fun _ => ⟨_, rfl, (Array.getElem?_eq_some_iff.1 hg).1, fun j v hv => ?_⟩⟩
  rw [add_lit, Nat.zero_add, cell_of_row w g j _ e _ hg]
  have hj := (List.getElem?_eq_some_iff.1 hv).1
  simp [List.getElem?_append_left hj, hv]
theorem Mem.rdOwnB {l : List UInt8} (h : Mem w0 w (Asr.own e 1 A l.length cap (bs l) :: L)) : RdB w A cap l := h.rdOwn
/-- An owned slice, as its block. -/
theorem Mem.ownRow (h : Mem w0 w (Asr.own e size A n cap vs :: L)) (hA : A ≠ none) :
 ∃ g sp, A = some ⟨g, 0, none⟩ ∧ Mem w0 w (Asr.row g e (vs ++ sp) :: L) ∧ (vs ++ sp).length = cap * size ∧ cap ≤ maxLen ∧ n ≤ cap ∧ vs.length = n * size := by
 obtain ⟨hl, h2⟩ := h.head
 rcases h2 with ⟨rfl, _⟩ | ⟨g, sp, rfl, hg, hc, hm, hn⟩
 ·exact absurd rfl hA
 ·refine ⟨g, sp, rfl, ⟨h.base, ⟨hg, fun B hB k hk => ?_, h.sep.2.2⟩, fun B hB k hk => ?_⟩, hc, hm, hn, hl⟩
  ·have hk' : k = g := hk
   subst hk'
   exact h.sep.2.1 B hB k rfl
  ·rcases List.mem_cons.1 hB with rfl | hB
   ·have hk' : k = g := hk
    subst hk'
    exact h.new _ (List.mem_cons_self ..) k rfl
   ·exact h.new B (List.mem_cons_of_mem _ hB) k hk
/-- A block, as an owned slice of its beginning. -/
theorem Mem.rowOwn {g : Nat} {cs : List Value} (h : Mem w0 w (Asr.row g e cs :: L)) (sp : List Value) (hcs : cs = vs ++ sp) (hl : vs.length = n * size) (hc : (vs ++ sp).length = cap * size) (hm : cap ≤ maxLen) (hn : n ≤ cap) :
 Mem w0 w (Asr.own e size (some ⟨g, 0, none⟩) n cap vs :: L) := by
 subst hcs
 refine ⟨h.base, ⟨⟨hl, .inr ⟨g, sp, rfl, h.head, hc, hm, hn⟩⟩, fun B hB k hk => ?_, h.sep.2.2⟩, fun B hB k hk => ?_⟩
 ·have hk' : g = k := by simpa [Asr.own] using hk
  subst hk'
  exact h.sep.2.1 B hB g rfl
 ·rcases List.mem_cons.1 hB with rfl | hB
  ·have hk' : g = k := by simpa [Asr.own] using hk
   subst hk'
   exact h.new _ (List.mem_cons_self ..) g rfl
  ·exact h.new B (List.mem_cons_of_mem _ hB) k hk
end
/-! ### append -/
theorem madeZero_length (z : Array Value) (k : Nat) : (Builtin.zeroCells z k).toList.length = k * z.size := by simp [Builtin.zeroCells]
section
variable {P : Program} {w0 w : World} {L : List Asr} {t e : TypeId} {size n cap m c : Nat} {A A' : Option Addr} {vs news : List Value} {i : TypeInfo} {z : Value}
/-- What an append needs to know of the element's type. -/
structure Elem (P : Program) (t e : TypeId) (size bytes : Nat) : Prop where
 und : P.underlying t = some (.slice e)
 info : ∃ i z, P.info? e = some i ∧ i.zero = some z ∧ i.size = size ∧ i.bytes = bytes ∧ z.cells.size = size
 pos : 0 < size
theorem run_append2 {bytes : Nat} (E : Elem P t e size bytes) (ty : TypeId) (M : Mem w0 w (Asr.own e size A n cap vs :: L)) (R : Rd w A' m c size news) (h1 : ∀ u ∈ news, u.oneCell' = true)
 (hb : (n + m) * bytes ≤ 140737488355328) (hm : n + m ≤ maxLen) :
 ∃ A2 cap2 w', (Builtin.append_ #[t, t] ty #[.slice A n cap, .slice A' m c]).run P w = .ok (.slice A2 (n + m) cap2) w' ∧ Mem w0 w' (Asr.own e size A2 (n + m) cap2 (vs ++ news) :: L) ∧
  ((A2 = A ∧ Chg w w' (fun k => A.map (·.block) = some k)) ∨ ((∀ g, A2.map (·.block) = some g → w.heap.size ≤ g) ∧ Chg w w' none_)) := by
 obtain ⟨i, z, hi, hz, rfl, rfl, hzs⟩ := E.info
 have hsz := E.pos
 obtain ⟨hl, h2⟩ := M.head
 have hm' : ((n + m : Nat) : Int) ≤ 9223372036854775807 := by simp only [maxLen] at hm; omega
 -- the new block
 have made : ∀ old, Mem w0 (w.drew.alloc (.cells (vs.toArray ++ news.toArray ++ Builtin.zeroCells z.cells (grownCap w (n + m) old e - (n + m))) e))
  (Asr.own e i.size (some ⟨w.heap.size, 0, none⟩) (n + m) (grownCap w (n + m) old e) (vs ++ news) :: L) := by
  intro old
  have hge := grownCap_ge w (n + m) old e
  have hcm : grownCap w (n + m) old e ≤ maxLen := grownCap_le_maxLen w (n + m) old e hm
  have M1 := (M.tail.drew).alloc (.cells (vs.toArray ++ news.toArray ++ Builtin.zeroCells z.cells (grownCap w (n + m) old e - (n + m))) e)
  have M2 : Mem w0 (w.drew.alloc (.cells (vs.toArray ++ news.toArray ++ Builtin.zeroCells z.cells (grownCap w (n + m) old e - (n + m))) e)) (Asr.row w.heap.size e ((vs ++ news) ++ (Builtin.zeroCells z.cells (grownCap w (n + m) old e - (n + m))).toList) :: L) := by
   have e1 : (vs.toArray ++ news.toArray ++ Builtin.zeroCells z.cells (grownCap w (n + m) old e - (n + m))) = ((vs ++ news) ++ (Builtin.zeroCells z.cells (grownCap w (n + m) old e - (n + m))).toList).toArray := by
    apply Array.ext'; simp
   rw [Asr.row, ← e1]
   exact M1
  refine M2.rowOwn _ rfl (by rw [List.length_append, hl, R.len, Nat.add_mul]) ?_ hcm hge
  rw [List.length_append, madeZero_length, hzs, List.length_append, hl, R.len, ← Nat.add_mul, ← Nat.add_mul]
  congr 1
  omega
 -- nothing is appended
 by_cases hm0 : m = 0
 ·subst hm0
  have hn : news = [] := List.eq_nil_of_length_eq_zero (by simpa using R.len)
  subst hn
  refine ⟨A, cap, w, ?_, by simpa using M, .inl ⟨rfl, Chg.refl _ _⟩⟩
  have hnc : n ≤ cap := M.rdOwn.le
  have hf : (Builtin.firstCells i.size 0 (.slice A' 0 c)).run P w = .ok #[] w := by
   cases A' with
   | none => rfl
   | some ad => simp [Builtin.firstCells, loadCells, loadCellsFrom]
  cases A with
  | none => simp [Builtin.append_, run_underlying E.und, sizeOf, typeInfo, hi, Builtin.lenOf, hnc, hf]
  | some a => simp [Builtin.append_, run_underlying E.und, sizeOf, typeInfo, hi, Builtin.lenOf, hnc, hf, storeCells]
 ·obtain ⟨ad, rfl, _, hc⟩ := R.at_ (by omega)
  rcases h2 with ⟨rfl, rfl, rfl⟩ | ⟨g, sp, rfl, hg, hcl, hcm, hnc⟩
  ·have hv : vs = [] := List.eq_nil_of_length_eq_zero (by simpa using hl)
   subst hv
   have hr := run_append_nil (P := P) w t ty e i z E.und hi hz ad m c news R.len hc (by omega) (by omega) (by have hb := hb; simp only [Nat.zero_add] at hb; omega)
   have hmd := made 0
   simp only [Nat.zero_add, List.nil_append, Array.empty_append] at hmd ⊢
   exact ⟨_, _, _, hr, hmd, .inr ⟨fun g hg => by simp at hg; omega, (((Mem.refl w).drew).alloc _).base⟩⟩
  ·by_cases hroom : n + m ≤ cap
   ·have hfit : n * i.size + news.length ≤ (vs ++ sp).toArray.size := by
     rw [R.len, List.size_toArray, hcl, ← Nat.add_mul]
     exact Nat.mul_le_mul_right _ hroom
    have hr := run_append_room (P := P) w t ty e i E.und hi g n cap (vs ++ sp).toArray hg ad m c news R.len hc h1 hroom hfit
    refine ⟨_, _, _, hr, ?_, .inl ⟨rfl, ⟨rfl, rfl, rfl, by simp, fun k _ hk => setRow_other w g k _ (fun e => hk (by simp [e]))⟩⟩⟩
    have e1 : (vs ++ sp).toArray.toList.take (n * i.size) ++ news ++ (vs ++ sp).toArray.toList.drop (n * i.size + news.length) = (vs ++ news) ++ sp.drop news.length := by
     rw [← hl]
     simp [List.drop_append]
    rw [e1]
    obtain ⟨g', sp', hA, M1, _⟩ := M.ownRow (by simp)
    obtain rfl : g = g' := by simpa using hA
    have M2 : Mem w0 (w.setRow g ((vs ++ news) ++ sp.drop news.length).toArray) (Asr.row g e ((vs ++ news) ++ sp.drop news.length) :: L) :=
     M1.write ⟨rfl, rfl, rfl, by simp, fun k _ hk => setRow_other w g k _ (fun e => hk e)⟩ (setRow_heap w g (vs ++ sp).toArray _ e _ hg) (fun _ hf => .inl hf)
    refine M2.rowOwn _ rfl (by rw [List.length_append, hl, R.len, Nat.add_mul]) ?_ hcm hroom
    simp only [List.length_append, List.length_drop] at hcl ⊢
    have h3 : n * i.size + m * i.size ≤ cap * i.size := by rw [← Nat.add_mul]; exact Nat.mul_le_mul_right _ hroom
    rw [hl, R.len] at *
    omega
   ·have hvs : ∀ j u, vs[j]? = some u → w.cell? ((⟨g, 0, none⟩ : Addr).add j) = some u := by
     intro j u hu
     rw [add_lit, Nat.zero_add, cell_of_row w g j _ e _ hg]
     have hj := (List.getElem?_eq_some_iff.1 hu).1
     simp [List.getElem?_append_left hj, hu]
    have hr := run_append_grow (P := P) w t ty e i z E.und hi hz ⟨g, 0, none⟩ n cap vs hl hvs ad m c news R.len hc (by omega) hm' (growslice_fits (by omega) hb)
    exact ⟨_, _, _, hr, made cap, .inr ⟨fun g hg => by simp at hg; omega, (((Mem.refl w).drew).alloc _).base⟩⟩
theorem run_append {bytes : Nat} (E : Elem P t e size bytes) (ty : TypeId) (M : Mem w0 w (Asr.own e size A n cap vs :: L)) (R : Rd w A' m c size news) (h1 : ∀ u ∈ news, u.oneCell' = true)
 (hb : (n + m) * bytes ≤ 140737488355328) (hm : n + m ≤ maxLen) :
 ∃ A2 cap2 w', (Builtin.append_ #[t, t] ty #[.slice A n cap, .slice A' m c]).run P w = .ok (.slice A2 (n + m) cap2) w' ∧ Mem w0 w' (Asr.own e size A2 (n + m) cap2 (vs ++ news) :: L) := by
 obtain ⟨A2, cap2, w', hr, M', _⟩ := run_append2 E ty M R h1 hb hm
 exact ⟨A2, cap2, w', hr, M'⟩
end
section
variable {P : Program} {n : Nat} {ρ : List (Nat × Value)} {w0 w : World} {rest : List Oper} {L : List Asr} {Y : Sq P n}
variable {d : Nat} {ty : TypeId} {pos : String} {aft : Array Edge} {x y : Operand} {t t' e : TypeId} {k yk : IntKind} {i j r : Int}
theorem WL.append {A A' : Option Addr} {m cap m' c size bytes : Nat} {vs news : List Value} (E : Elem P t e size bytes) (hx : ev ρ x = some (.slice A m cap)) (hy : ev ρ y = some (.slice A' m' c))
 (M : Mem w0 w (Asr.own e size A m cap vs :: L)) (R : Rd w A' m' c size news) (h1 : ∀ u ∈ news, u.oneCell' = true)
 (hb : (m + m') * bytes ≤ 140737488355328) (hm : m + m' ≤ maxLen) (hd : Nat.blt d n = true)
 (kk : ∀ A2 cap2 w', Mem w0 w' (Asr.own e size A2 (m + m') cap2 (vs ++ news) :: L) → Y.S rest ((d, .slice A2 (m + m') cap2) :: ρ) w') :
 Y.S (⟨some d, .call ⟨.builtin .append, #[x, y], #[t, t]⟩, ty, pos, aft, none⟩ :: rest) ρ w := by
 obtain ⟨A2, cap2, w', hr, M'⟩ := run_append E ty M R h1 hb hm
 exact WL.valW rfl rfl hd (fun a ha => by
  simp only [execOp, resolve, invoke, builtin, Sem.run_bind, Sem.run_pure, Result.andThen_ok, List.map_toArray, List.map_cons, List.map_nil, ha.eval hx, ha.eval hy, hr]) (kk A2 cap2 w' M')
theorem bs_oneCell (l : List UInt8) : ∀ u ∈ bs l, u.oneCell' = true := by
 intro u hu
 obtain ⟨_, _, rfl⟩ := List.mem_map.1 hu
 rfl
/-- append of bytes: 2^47 is the reach. -/
theorem WL.appendB {A A' : Option Addr} {m cap m' c : Nat} {l news : List UInt8} (E : Elem P t e 1 1) (hx : ev ρ x = some (.slice A m cap)) (hy : ev ρ y = some (.slice A' m' c))
 (M : Mem w0 w (Asr.own e 1 A m cap (bs l) :: L)) (R : RdB w A' c news) (hl : m = l.length) (hn : m' = news.length) (hb : l.length + news.length ≤ 140737488355328) (hd : Nat.blt d n = true)
 (kk : ∀ A2 cap2 w', Mem w0 w' (Asr.own e 1 A2 (l ++ news).length cap2 (bs (l ++ news)) :: L) → Y.S rest ((d, .slice A2 (l ++ news).length cap2) :: ρ) w') :
 Y.S (⟨some d, .call ⟨.builtin .append, #[x, y], #[t, t]⟩, ty, pos, aft, none⟩ :: rest) ρ w := by
 subst hl hn
 refine WL.append E hx hy M R (bs_oneCell _) (by omega) (by simp only [maxLen]; omega) hd ?_
 rw [← List.length_append, ← bs_append]
 exact kk
/-- 'fill' of one-cell parts in order. -/
theorem fill_one : ∀ (vs pre zs : List Value), zs.length = vs.length → (∀ v ∈ vs, v.oneCell' = true) →
 Instr.fill (fun i => some (i * 1, 1)) (pre ++ zs).toArray ((List.range' pre.length vs.length).zip vs) = some (pre ++ vs).toArray
 | [], pre, zs, hz, _ => by
   have : zs = [] := List.eq_nil_of_length_eq_zero hz
   subst this
   simp [Instr.fill]
 | v :: vs, pre, zs, hz, h1 => by
   cases zs with
   | nil => simp at hz
   | cons z zs =>
     have hv : v.cells = #[v] := by
      have := h1 v (List.mem_cons_self ..)
      cases v <;> first | rfl | simp [Value.oneCell'] at this
     have ih := fill_one vs (pre ++ [v]) zs (by simpa using hz) (fun u hu => h1 u (List.mem_cons_of_mem _ hu))
     simp only [List.length_append, List.length_cons, List.length_nil, Nat.zero_add, List.append_assoc, List.singleton_append] at ih
     simp only [List.length_cons, List.range'_succ, List.zip_cons_cons, Instr.fill, hv, Nat.mul_one]
     rw [if_neg (by simp)]
     have e2 : (Array.zipIdx #[v]).foldl (fun cs (x : Value × Nat) => cs.setIfInBounds (pre.length + x.2) x.1) (pre ++ z :: zs).toArray = (pre ++ v :: zs).toArray := by
      simp
     simpa using (congrArg (fun cs => Instr.fill (fun i => some (i * 1, 1)) cs ((List.range' (pre.length + 1) vs.length).zip vs)) e2).trans ih
theorem WL.buildSlice {xs : List Operand} {vs : List Value} {bytes : Nat} (E : Elem P t e 1 bytes) (M : Mem w0 w L) (hxs : evs ρ xs = some vs) (h1 : ∀ v ∈ vs, v.oneCell' = true) (hl : vs.length ≤ 1000) (hd : Nat.blt d n = true)
 (kk : ∀ g w', Mem w0 w' (Asr.own e 1 (some ⟨g, 0, none⟩) vs.length vs.length vs :: L) → Y.S rest ((d, .slice (some ⟨g, 0, none⟩) vs.length vs.length) :: ρ) w') :
 Y.S (⟨some d, .buildSlice t vs.length ((List.range' 0 xs.length).zip xs).toArray, ty, pos, aft, none⟩ :: rest) ρ w := by
 obtain ⟨inf, z, hi, hz, hsz, hby, hzs⟩ := E.info
 have M1 := M.alloc (.cells vs.toArray e)
 have M2 : Mem w0 _ (Asr.own e 1 (some ⟨w.heap.size, 0, none⟩) vs.length vs.length vs :: L) :=
  Mem.rowOwn (g := w.heap.size) (cs := vs) M1 [] (by simp) (by simp) (by simp) (by simp only [maxLen]; omega) (Nat.le_refl _)
 refine WL.valW (v := .slice (some ⟨w.heap.size, 0, none⟩) vs.length vs.length) rfl rfl hd (fun a ha => ?_) (kk _ _ M2)
 have hev := ha.evals hxs
 have hlen : xs.length = vs.length := by rw [← hev]; simp
 have hparts : ((List.range' 0 xs.length).zip xs).map (fun (x : Nat × Operand) => (x.1, a.eval x.2)) = (List.range' 0 vs.length).zip vs := by
  rw [hlen, ← hev]
  simp [List.zip_map_right]
 have hf : ∀ zs : List Value, zs.length = vs.length → Instr.fill (fun i => some (i, 1)) zs.toArray ((List.range' 0 vs.length).zip vs) = some vs.toArray := fun zs hzl => by
  have := fill_one vs [] zs hzl h1
  simpa using this
 by_cases h0 : vs.length = 0
 ·have hv0 : vs = [] := List.eq_nil_of_length_eq_zero h0
  have hx0 : xs = [] := List.eq_nil_of_length_eq_zero (by omega)
  subst hv0 hx0
  simp [execOp, Instr.buildSlice, run_underlying E.und, sizeOf, typeInfo, hi, Instr.fill, newRow, Array.range_zero']
 ·have hzero : ((Array.range vs.length).map fun (i : Nat) => (z.cells)[i % z.cells.size]!).toList.length = vs.length := by simp
  have hf' := hf _ hzero
  simp only [Array.toArray_toList] at hf'
  simp only [execOp, Instr.buildSlice, run_underlying E.und, Sem.run_bind, Result.andThen_ok, sizeOf, typeInfo, run_program, hi, Sem.run_pure, hsz, Nat.mul_one, Sem.run_ite]
  rw [if_neg (by omega), if_neg h0]
  simp [zeroValue, typeInfo, hi, hz, hparts, hf', newRow]
/-- A slice literal of one-cell values; or the empty one. -/
theorem WL.buildS {parts : Array (Nat × Operand)} {len : Nat} {vs : List Value} {bytes : Nat} (E : Elem P t e 1 bytes) (M : Mem w0 w L) (hxs : evs ρ (parts.toList.map (·.2)) = some vs)
 (hp : parts.toList = (List.range' 0 (parts.toList.map (·.2)).length).zip (parts.toList.map (·.2))) (hlen : len = vs.length) (h1 : ∀ v ∈ vs, v.oneCell' = true) (hl : Nat.ble len 1000 = true) (hd : Nat.blt d n = true)
 (kk : ∀ g w', Mem w0 w' (Asr.own e 1 (some ⟨g, 0, none⟩) len len vs :: L) → Y.S rest ((d, .slice (some ⟨g, 0, none⟩) len len) :: ρ) w') :
 Y.S (⟨some d, .buildSlice t len parts, ty, pos, aft, none⟩ :: rest) ρ w := by
 subst hlen
 have hpa : parts = ((List.range' 0 (parts.toList.map (·.2)).length).zip (parts.toList.map (·.2))).toArray := by
  rw [← hp]
 rw [hpa]
 exact WL.buildSlice E M hxs h1 (Nat.le_of_ble_eq_true hl) hd kk
/-- 'make([]T, j)', one cell an element. -/
theorem WL.make {bytes : Nat} {z0 : Value} {kl kc : IntKind} (E : Elem P t e 1 bytes) (hz : ∀ w, (zeroValue e).run P w = .ok z0 w) (M : Mem w0 w L) (hx : ev ρ x = some (.int kl j)) (hy : ev ρ y = some (.int kc j)) (h0 : 0 ≤ j) (hz0 : z0.cells = #[z0]) (hb : bytes * j.toNat ≤ 281474976710656)
 (hm : j ≤ 9223372036854775807) (hd : Nat.blt d n = true)
 (kk : ∀ g w', Mem w0 w' (Asr.row g e (List.replicate j.toNat z0) :: L) → Y.S rest ((d, .slice (some ⟨g, 0, none⟩) j.toNat j.toNat) :: ρ) w') :
 Y.S (⟨some d, .makeSlice t x y, ty, pos, aft, none⟩ :: rest) ρ w := by
 obtain ⟨m, rfl⟩ := Int.eq_ofNat_of_zero_le h0
 simp only [Int.toNat_natCast] at *
 obtain ⟨inf, z, hi, hzz, hsz, hby, hzs⟩ := E.info
 have hzv : z = z0 := by
  have := hz w
  simp [zeroValue, typeInfo, hi, hzz] at this
  exact this
 subst hzv
 have hr := run_make (P := P) w t e inf z E.und hi hzz kl kc m m (by omega) (Int.le_refl _) (by
  have h : ((bytes * m : Nat) : Int) ≤ 281474976710656 := by omega
  rw [hby]
  rwa [Int.natCast_mul] at h) (by omega)
 have M1 := M.alloc (.cells (madeCells z.cells (m * inf.size)) e)
 have M2 : Mem w0 (w.alloc (.cells (madeCells z.cells (m * inf.size)) e)) (Asr.row w.heap.size e (List.replicate m z) :: L) := by
  have e1 : madeCells z.cells (m * inf.size) = (List.replicate m z).toArray := by
   apply Array.ext'
   rw [hz0, toList_madeCells_one, hsz, Nat.mul_one]
  rw [Asr.row, ← e1]
  exact M1
 refine WL.valW rfl rfl hd (fun a ha => ?_) (kk w.heap.size _ M2)
 simp only [Int.toNat_natCast] at hr
 simp [execOp, ha.eval hx, ha.eval hy, hr]
end
end Go.Proofs.YtlminileigfkcaaGreat
namespace Go.Proofs.YtlminileigfkcaaGreat
open Go Go.RowKit
def noPan (Q : Exit → Act → World → Prop) : Exit → Act → World → Prop
 | .panic _, _, _ => False
 | e, a, w => Q e a w
/-- Whatever order is picked; behind the operations marked by G, S holds. -/
def anyG (P : Program) (ops : Array Oper) (Q : Exit → Act → World → Prop) (S : World → Prop) (G : Nat → Bool) : Nat → Array Bool → Act → World → Prop
 | 0, listed, a, w => Region.ready .any ops listed = [] ∧ Q .normal a w
 | f + 1, listed, a, w => (Region.ready .any ops listed = [] → Q .normal a w) ∧
   ∀ i ∈ Region.ready .any ops listed, wpOp P ops Q i (fun a' w' => (G i = true → S w') ∧ anyG P ops Q S G f (listed.setIfInBounds i true) a' w') a w
section
variable {P : Program} {ops : Array Oper} {Q : Exit → Act → World → Prop} {S T : World → Prop} {G : Nat → Bool}
theorem any_of_G : ∀ (f : Nat) (listed : Array Bool) (a : Act) (w : World), anyG P ops Q S G f listed a w → wpAny P .any ops Q f listed a w
 | 0, _, _, _, h => h
 | f + 1, _, _, _, h => ⟨h.1, fun i hi => wpOp_mono (fun a' w' h' => any_of_G f _ a' w' h'.2) (h.2 i hi)⟩
theorem anyG_first {i : Nat} {oi : Oper} {v : Value} {R : Nat → Bool} {L0 : Array Bool} (hi : ops[i]? = some oi) (hsel : ∀ (j : Nat) (o : Oper) cs b, ops[j]? = some o → o.op ≠ .select cs b)
 (hQ : ∀ c a w, ¬ Q (.panic c) a w) (hG : G i = true → ∀ w, T w → S w)
 (hcl : ∀ (j : Nat) (oj : Oper), ops[j]? = some oj → j ≠ i → (∀ e ∈ oj.after, Region.binds .any e = true → L0.getD e.on false = true ∨ R e.on = true) → R j = true)
 (hfree : ∀ (j : Nat) (oj : Oper), ops[j]? = some oj → j ≠ i → L0.getD j true = false → R j = true → oi.apart ops oj = true ∧ ∀ w', (G j = true → S w') → T w') :
 ∀ (f : Nat) (listed : Array Bool) (a : Act) (w : World),
  (∀ k, listed.getD k false = true → L0.getD k false = true ∨ R k = true) → (∀ k, L0.getD k true = true → listed.getD k true = true) →
  i ∈ Region.ready .any ops listed → YieldsIf P ops T oi v a → T w →
  anyG P ops Q S G f (listed.setIfInBounds i true) (a.put oi.dst v) w → anyG P ops Q S G (f + 1) listed a w := by
 intro f
 induction f with
 | zero =>
   intro listed a w _ _ hr hy hT H
   refine ⟨fun h => (by rw [h] at hr; cases hr), fun j hj => ?_⟩
   by_cases hji : j = i
   ·subst hji; exact hy.wpOp hi hT ⟨fun h => hG h w hT, H⟩
   ·have := ready_mono hj hji
    rw [H.1] at this
    cases this
 | succ f ih =>
   intro listed a w hsub hmono hr hy hT H
   refine ⟨fun h => (by rw [h] at hr; cases hr), fun j hj => ?_⟩
   by_cases hji : j = i
   ·subst hji; exact hy.wpOp hi hT ⟨fun h => hG h w hT, H⟩
   ·have h1 := H.2 j (ready_mono hj hji)
    obtain ⟨hjun, oj, hoj, hall⟩ := mem_ready.1 hj
    have hRj : R j = true := hcl j oj hoj hji fun e he hb => hsub e.on (hall e he hb)
    have hL0 : L0.getD j true = false := by
     cases h0 : L0.getD j true with
     | false => rfl
     | true => rw [hmono j h0] at hjun; cases hjun
    obtain ⟨hap, hT'⟩ := hfree j oj hoj hji hL0 hRj
    have h2 := wpOp_putIf hoj hap (fun cs b => hsel i oi cs b hi) (fun cs b => hsel j oj cs b hoj) (fun c a w hq => (hQ _ _ _ hq).elim) hy h1
    have hsub' : ∀ k, (listed.setIfInBounds j true).getD k false = true → L0.getD k false = true ∨ R k = true := fun k hk => by
     by_cases hjk : j = k
     ·subst hjk; exact .inr hRj
     ·rw [getD_set_ne false hjk] at hk; exact hsub k hk
    have hmono' : ∀ k, L0.getD k true = true → (listed.setIfInBounds j true).getD k true = true := fun k hk => by
     by_cases hjk : j = k
     ·subst hjk; rw [hL0] at hk; cases hk
     ·rw [getD_set_ne true hjk]; exact hmono k hk
    refine wpOp_mono (fun a' w' h3 => ⟨h3.2.1, ih (listed.setIfInBounds j true) a' w' hsub' hmono' (ready_mono hr (Ne.symm hji)) h3.1 (hT' w' h3.2.1) ?_⟩) h2
    rw [Array.setIfInBounds_comm _ _ hji]
    exact h3.2.2
/-- The operations of the list have come up. -/
def marked_ (n : Nat) (done : List Nat) : Array Bool := done.foldl (fun l i => l.setIfInBounds i true) (Array.replicate n false)
/-- Is all that operation j waits for listed, or in R? -/
def readyM (ops : Array Oper) (listed : Array Bool) (R : Nat) (j : Nat) : Bool :=
 match ops[j]? with
 | some oj => oj.after.all fun e => !Region.binds .any e || listed.getD e.on false || R.testBit e.on
 | none => false
/-- What may come up while i has not. -/
def reachM (ops : Array Oper) (listed : Array Bool) (i : Nat) : Nat :=
 (List.range ops.size).foldl (fun R j => if j != i && readyM ops listed R j then R ||| 2 ^ j else R) 0
/-- May operation i be taken ahead of all others? pure: whatever the others do. -/
def freeR (ops : Array Oper) (G : Nat → Bool) (pure : Bool) (listed : Array Bool) (i R : Nat) : Bool :=
 match ops[i]? with
 | none => false
 | some oi => (List.range ops.size).all fun j => j == i || ((!readyM ops listed R j || R.testBit j) && (listed.getD j true || !R.testBit j || match ops[j]? with
    | some oj => oi.apart ops oj && (pure || G j)
    | none => true))
def freeG (ops : Array Oper) (G : Nat → Bool) (pure : Bool) (listed : Array Bool) (i : Nat) : Bool := freeR ops G pure listed i (reachM ops listed i)
theorem freeR_spec {pure : Bool} {i R : Nat} {oi : Oper} {listed : Array Bool} (hi : ops[i]? = some oi) (h : freeR ops G pure listed i R = true) :
 (∀ (j : Nat) (oj : Oper), ops[j]? = some oj → j ≠ i → (∀ e ∈ oj.after, Region.binds .any e = true → listed.getD e.on false = true ∨ R.testBit e.on = true) → R.testBit j = true) ∧
 (∀ (j : Nat) (oj : Oper), ops[j]? = some oj → j ≠ i → listed.getD j true = false → R.testBit j = true → oi.apart ops oj = true ∧ (pure = true ∨ G j = true)) := by
 simp only [freeR, hi, List.all_eq_true, List.mem_range] at h
 refine ⟨fun j oj hj hne hd => ?_, fun j oj hj hne hun hR => ?_⟩
 ·have h1 := h j (Array.getElem?_eq_some_iff.1 hj).1
  simp only [Bool.or_eq_true, beq_iff_eq, hne, false_or, Bool.and_eq_true] at h1
  rcases h1.1 with h2 | h2
  ·have hr : readyM ops listed R j = true := by
    simp only [readyM, hj, Array.all_eq_true_iff_forall_mem, Bool.or_eq_true]
    intro e he
    cases hb : Region.binds .any e with
    | false => exact .inl (.inl rfl)
    | true =>
      rcases hd e he hb with h3 | h3
      ·exact .inl (.inr h3)
      ·exact .inr h3
   rw [hr] at h2
   cases h2
  ·exact h2
 ·have h1 := h j (Array.getElem?_eq_some_iff.1 hj).1
  simp only [Bool.or_eq_true, beq_iff_eq, hne, false_or, Bool.and_eq_true, hun, Bool.false_eq_true, hR, Bool.not_true, hj] at h1
  exact h1.2
/-- May the operations of the list be taken, one behind the other? -/
def takeOk (ops : Array Oper) (G : Nat → Bool) (pure : Bool) : List Nat → List Nat → Bool
 | _, [] => true
 | done, i :: r => Nat.blt i ops.size && !(pure && G i) && freeG ops G pure (marked_ ops.size done) i && (Region.ready .any ops (marked_ ops.size done)).contains i && takeOk ops G pure (done ++ [i]) r
def pickOps (l : List Oper) : List Nat → List Oper
 | [] => []
 | i :: r => (l[i]?).getD default :: pickOps l r
/-- One behind the other, without a turn of the world, to just the frame ρF. -/
def Chain (P : Program) (n : Nat) (ops : Array Oper) (ρF : List (Nat × Value)) : List Oper → List (Nat × Value) → World → Prop
 | [], ρ, _ => ρ = ρF
 | o :: rest, ρ, w => ∃ d v, o.dst = some d ∧ Nat.blt d n = true ∧
    ((∀ a, St n ρ a → Region.wanted o (yielded ops a.tmps) = true ∧ (execOp a.eval o).run P w = .ok (.value v) w) ∨ ((∀ a, St n ρ a → Region.wanted o (yielded ops a.tmps) = false) ∧ v = undef)) ∧
    Chain P n ops ρF rest ((d, v) :: ρ) w
theorem Chain.pre {n : Nat} {ρF : List (Nat × Value)} {w : World} : ∀ {l : List Oper} {ρ : List (Nat × Value)}, Chain P n ops ρF l ρ w → ∃ pre, ρF = pre ++ ρ ∧ pre.length = l.length
 | [], ρ, h => ⟨[], h.symm, rfl⟩
 | o :: rest, ρ, ⟨d, v, _, _, _, h⟩ => by
   obtain ⟨pre, h1, h2⟩ := Chain.pre h
   exact ⟨pre ++ [(d, v)], by rw [h1]; simp, by simp [h2]⟩
def chain (P : Program) (n : Nat) (ops : Array Oper) (ρF : List (Nat × Value)) : SqV P n where
 ops := ops
 S := fun l ρ w => Chain P n ops ρF l ρ w
 val_ := fun hg hdst hd hrun k => ⟨_, _, hdst, hd, .inl (fun a ha => ⟨by simp [Region.wanted, hg], hrun a ha⟩), k⟩
 on_ := fun {d op ty pos aft j b rest ρ w t} hj ht h => by
  obtain ⟨d', v, h1, h2, h3, h4⟩ := h
  refine ⟨d', v, h1, h2, .inl fun a ha => ⟨by simp [Region.wanted, yielded_of ha hj ht], ?_⟩, h4⟩
  rcases h3 with h3 | ⟨h3, _⟩
  ·exact (h3 a ha).2
  ·have := h3 a ha
   simp [Region.wanted] at this
 off_ := fun hw hdst hd k => ⟨_, _, hdst, hd, .inr ⟨hw, rfl⟩, k⟩
theorem marked_snoc_ (m : Nat) (done : List Nat) (i : Nat) : marked_ m (done ++ [i]) = (marked_ m done).setIfInBounds i true := by simp [marked_]
theorem batch_ {n : Nat} {ρF : List (Nat × Value)} {pure : Bool} (hQ : ∀ c a w, ¬ Q (.panic c) a w) (hsel : Region.noSelect ops = true) {w : World} (hT : T w)
 (hTS : (pure = true ∧ ∀ w', T w') ∨ (pure = false ∧ ∀ w', S w' ↔ T w')) :
 ∀ (ids done : List Nat) (ρ : List (Nat × Value)) (f : Nat), takeOk ops G pure done ids = true → (∀ w', T w' → Chain P n ops ρF (pickOps ops.toList ids) ρ w') →
  (∀ a, St n ρF a → anyG P ops Q S G f (marked_ ops.size (done ++ ids)) a w) → ∀ a, St n ρ a → anyG P ops Q S G (f + ids.length) (marked_ ops.size done) a w
 | [], done, ρ, f, _, hch, k, a, ha => by
   have h := hch w hT
   have h' : ρ = ρF := h
   subst h'
   simpa using k a ha
 | i :: r, done, ρ, f, hck, hch, k, a, ha => by
   simp only [takeOk, Bool.and_eq_true] at hck
   obtain ⟨⟨⟨⟨hi, hGi⟩, hfr⟩, hrd⟩, hck'⟩ := hck
   have hi' : i < ops.size := by simpa [Nat.blt_eq] using hi
   have hoi : ops[i]? = some ops[i] := Array.getElem?_eq_getElem hi'
   have hpick : pickOps ops.toList (i :: r) = ops[i] :: pickOps ops.toList r := by simp [pickOps, hi']
   rw [hpick] at hch
   obtain ⟨d, v, hd, hb, hrun, hch1⟩ := hch w hT
   have same : ∀ w', T w' → ((∀ a, St n ρ a → Region.wanted ops[i] (yielded ops a.tmps) = true ∧ (execOp a.eval ops[i]).run P w' = .ok (.value v) w') ∨ ((∀ a, St n ρ a → Region.wanted ops[i] (yielded ops a.tmps) = false) ∧ v = undef)) ∧
    Chain P n ops ρF (pickOps ops.toList r) ((d, v) :: ρ) w' := fun w' hw' => by
    obtain ⟨d', v', hd', hb', hrun', hch'⟩ := hch w' hw'
    obtain ⟨p1, e1, l1⟩ := hch1.pre
    obtain ⟨p2, e2, l2⟩ := hch'.pre
    have := (List.append_inj (e1.symm.trans e2) (by rw [l1, l2])).2
    simp only [List.cons.injEq, Prod.mk.injEq, and_true] at this
    obtain ⟨rfl, rfl⟩ := this
    exact ⟨hrun', hch'⟩
   have hy : YieldsIf P ops T ops[i] v a := by
    by_cases hw : Region.wanted ops[i] (yielded ops a.tmps) = true
    ·refine .inl ⟨hw, fun w' hw' => ?_⟩
     rcases (same w' hw').1 with h | ⟨h, _⟩
     ·exact (h a ha).2
     ·have := h a ha
      rw [hw] at this
      cases this
    ·rcases hrun with h | ⟨_, hv⟩
     ·exact absurd (h a ha).1 hw
     ·exact .inr ⟨by simpa using hw, hv⟩
   obtain ⟨hcl, hsp⟩ := freeR_spec hoi hfr
   have h4 := batch_ hQ hsel hT hTS r (done ++ [i]) ((d, v) :: ρ) f hck' (fun w' hw' => (same w' hw').2) (by simpa using k) (a.put (some d) v) (ha.put hb v)
   rw [marked_snoc_] at h4
   rw [List.length_cons, ← Nat.add_assoc]
   refine anyG_first (R := fun k => (reachM ops (marked_ ops.size done) i).testBit k) (L0 := marked_ ops.size done) hoi (Region.noSelect_spec hsel) hQ (fun hg w' hw' => by
    rcases hTS with ⟨hp, _⟩ | ⟨_, h⟩
    ·subst hp
     simp [hg] at hGi
    ·exact (h w').2 hw') hcl (fun j oj hj hne hun hR => ?_) _ _ a w (fun k hk => .inl hk) (fun k hk => hk) (by simpa using hrd) hy hT (by rw [hd]; exact h4)
   obtain ⟨h5, h6⟩ := hsp j oj hj hne hun hR
   refine ⟨h5, fun w' hS => ?_⟩
   rcases hTS with ⟨_, hall⟩ | ⟨hp, hST⟩
   ·exact hall w'
   ·rcases h6 with h6 | h6
    ·rw [hp] at h6; cases h6
    ·exact (hST w').1 (hS h6)
/-- The region's operations that are still to come, all but 'done'. -/
def DG (P : Program) (ops : Array Oper) (Q : Exit → Act → World → Prop) (S : World → Prop) (G : Nat → Bool) (f : Nat) (done : List Nat) (n : Nat) (ρ : List (Nat × Value)) (w : World) : Prop :=
 ∀ a, St n ρ a → anyG P ops (noPan Q) S G f (marked_ ops.size done) a w
theorem noPan_no (Q : Exit → Act → World → Prop) : ∀ c a w, ¬ noPan Q (.panic c) a w := fun _ _ _ h => h
section
variable {n : Nat} {ρ : List (Nat × Value)} {w : World} {f : Nat} {done : List Nat} {l : List Oper}
/-- The beginning. S: what holds behind the operations that G marks. -/
theorem W.draw {id : Nat} (hm : P.follows .mixedOrders = true) (S : World → Prop) (G : Nat → Bool) (h : DG P l.toArray Q S G l.length [] n ρ w.drew) : W P (.region id l.toArray true) Q n ρ w := fun a ha =>
 Code.wp_mono (Q := noPan Q) (fun e a w hq => by cases e <;> first | exact hq | exact hq.elim) (wp_region_any hm (any_of_G _ _ _ _ (by simpa [marked_] using h a ha)))
/-- Operations that yield their values whatever the world. -/
theorem DG.pure_ (ids : List Nat) (f' : Nat) {ρF : List (Nat × Value)} (hf : f = f' + ids.length) (hs : Region.noSelect l.toArray = true) (hck : takeOk l.toArray G true done ids = true)
 (hch : ∀ w', (chain P n l.toArray ρF).S (pickOps l ids) ρ w') (k : DG P l.toArray Q S G f' (done ++ ids) n ρF w) : DG P l.toArray Q S G f done n ρ w := by
 subst hf
 exact batch_ (T := fun _ => True) (pure := true) (noPan_no Q) hs trivial (.inl ⟨rfl, fun _ => trivial⟩) ids done ρ f' hck (fun w' _ => by simpa [chain] using hch w') k
/-- Operations that yield their values wherever S holds. -/
theorem DG.take (ids : List Nat) (f' : Nat) {ρF : List (Nat × Value)} (hf : f = f' + ids.length) (hs : Region.noSelect l.toArray = true) (hck : takeOk l.toArray G false done ids = true) (hS : S w)
 (hch : ∀ w', S w' → (chain P n l.toArray ρF).S (pickOps l ids) ρ w') (k : DG P l.toArray Q S G f' (done ++ ids) n ρF w) : DG P l.toArray Q S G f done n ρ w := by
 subst hf
 exact batch_ (T := S) (pure := false) (noPan_no Q) hs hS (.inr ⟨rfl, fun _ => Iff.rfl⟩) ids done ρ f' hck (fun w' hw => by simpa [chain] using hch w' hw) k
theorem Chain.end_ {ρ' : List (Nat × Value)} (h : ρ = ρ') : (chain P n ops ρ').S [] ρ w := h
/-- One operation, then KA. -/
def seqA (P : Program) (ops : Array Oper) (Q : Exit → Act → World → Prop) (KA : Act → World → Prop) : List Oper → Act → World → Prop
 | [], a, w => KA a w
 | o :: rest, a, w => if Region.wanted o (yielded ops a.tmps) then o.wp P a w (seqA P ops Q KA rest) Q else seqA P ops Q KA rest (a.put o.dst undef) w
def one (P : Program) (ops : Array Oper) (Q : Exit → Act → World → Prop) (KA : Act → World → Prop) (n : Nat) : Sq P n where
 ops := ops
 S := fun l ρ w => ∀ a, St n ρ a → seqA P ops Q KA l a w
 Q := Q
 val_ := fun {o rest ρ w d v} hg hdst hd hrun k a ha => by
  unfold seqA
  rw [if_pos (by simp [Region.wanted, hg])]
  unfold Oper.wp
  rw [hrun a ha, Oper.upon_value, hdst]
  exact k _ (ha.put hd v)
 on_ := fun {d op ty pos aft j b rest ρ w t} hj ht k a ha => by
  have h := k a ha
  unfold seqA at h ⊢
  rw [if_pos (by simp [Region.wanted, yielded_of ha hj ht])]
  rw [if_pos (by simp [Region.wanted])] at h
  exact h
 off_ := fun hw hdst hd k a ha => by
  unfold seqA
  rw [if_neg (by rw [hw a ha]; simp), hdst]
  exact k _ (ha.put hd undef)
 step_ := fun hg h a ha => by
  unfold seqA
  rw [if_pos (by simp [Region.wanted, hg])]
  exact h _ (fun a' ρ' w' ha' hr => hr a' ha') a ha
/-- The one operation that may come up now. -/
theorem DG.step (i : Nat) (f' : Nat) (hf : f = f' + 1) (hr : Region.ready .any l.toArray (marked_ l.length done) = [i])
 (h : (one P l.toArray (noPan Q) (fun a' w' => (G i = true → S w') ∧ anyG P l.toArray (noPan Q) S G f' (marked_ l.length (done ++ [i])) a' w') n).S (pickOps l [i]) ρ w) : DG P l.toArray Q S G f done n ρ w := by
 subst hf
 intro a ha
 have hr' : Region.ready .any l.toArray (marked_ l.toArray.size done) = [i] := by simpa using hr
 refine ⟨(fun h0 => by rw [hr'] at h0; cases h0), fun j hj => ?_⟩
 rw [hr', List.mem_singleton] at hj
 subst hj
 have hi : j < l.length := by
  have := (mem_ready (md := .any) (ops := l.toArray) (listed := marked_ l.toArray.size done) (j := j)).1 (by rw [hr']; simp)
  obtain ⟨_, o, ho, _⟩ := this
  simpa using (Array.getElem?_eq_some_iff.1 ho).1
 have h1 := h a ha
 have hpick : pickOps l [j] = [l[j]] := by simp [pickOps, hi]
 rw [hpick] at h1
 unfold seqA at h1
 unfold wpOp
 have e : l.toArray[j]? = some l[j] := by simp [hi]
 simp only [e]
 split
 ·rename_i hw
  rw [if_pos hw] at h1
  refine .inl (Oper.wp_mono (fun a' w' h2 => ?_) h1)
  unfold seqA at h2
  refine ⟨h2.1, ?_⟩
  rw [← marked_snoc_]
  simpa using h2.2
 ·rename_i hw
  rw [if_neg hw] at h1
  unfold seqA at h1
  refine ⟨h1.1, ?_⟩
  rw [← marked_snoc_]
  simpa using h1.2
/-- Each of the operations that may come up now. -/
theorem DG.steps (ids : List Nat) (f' : Nat) (hf : f = f' + 1) (hr : Region.ready .any l.toArray (marked_ l.length done) = ids) (hne : ids.isEmpty = false)
 (h : ∀ i ∈ ids, (one P l.toArray (noPan Q) (fun a' w' => (G i = true → S w') ∧ anyG P l.toArray (noPan Q) S G f' (marked_ l.length (done ++ [i])) a' w') n).S (pickOps l [i]) ρ w) : DG P l.toArray Q S G f done n ρ w := by
 subst hf
 intro a ha
 have hr' : Region.ready .any l.toArray (marked_ l.toArray.size done) = ids := by simpa using hr
 refine ⟨(fun h0 => by rw [hr'] at h0; subst h0; simp at hne), fun j hj => ?_⟩
 rw [hr'] at hj
 have hi : j < l.length := by
  have := (mem_ready (md := .any) (ops := l.toArray) (listed := marked_ l.toArray.size done) (j := j)).1 (by rw [hr']; exact hj)
  obtain ⟨_, o, ho, _⟩ := this
  simpa using (Array.getElem?_eq_some_iff.1 ho).1
 have h1 := h j hj a ha
 have hpick : pickOps l [j] = [l[j]] := by simp [pickOps, hi]
 rw [hpick] at h1
 unfold seqA at h1
 unfold wpOp
 have e : l.toArray[j]? = some l[j] := by simp [hi]
 simp only [e]
 split
 ·rename_i hw
  rw [if_pos hw] at h1
  refine .inl (Oper.wp_mono (fun a' w' h2 => ?_) h1)
  unfold seqA at h2
  refine ⟨h2.1, ?_⟩
  rw [← marked_snoc_]
  simpa using h2.2
 ·rename_i hw
  rw [if_neg hw] at h1
  unfold seqA at h1
  refine ⟨h1.1, ?_⟩
  rw [← marked_snoc_]
  simpa using h1.2
/-- Behind it. -/
theorem DG.go {i : Nat} {f' : Nat} (hS : G i = true → S w) (h : DG P l.toArray Q S G f' (done ++ [i]) n ρ w) :
 (one P l.toArray (noPan Q) (fun a' w' => (G i = true → S w') ∧ anyG P l.toArray (noPan Q) S G f' (marked_ l.length (done ++ [i])) a' w') n).S [] ρ w := fun a ha => by
 unfold seqA
 exact ⟨hS, by simpa using h a ha⟩
/-- All have come up. -/
theorem DG.end_ (hr : Region.ready .any l.toArray (marked_ l.length done) = []) (h : WX Q .normal n ρ w) : DG P l.toArray Q S G f done n ρ w := fun a ha => by
 have hr' : Region.ready .any l.toArray (marked_ l.toArray.size done) = [] := by simpa using hr
 cases f with
 | zero => exact ⟨hr', h a ha⟩
 | succ f => exact ⟨fun _ => h a ha, by rw [hr']; simp⟩
end
end
end Go.Proofs.YtlminileigfkcaaGreat
namespace Go.Proofs.YtlminileigfkcaaGreat
open Go Go.RowKit
theorem Tryz.elem5 : Elem Tryz.prog 84 5 1 1 := by
 obtain ⟨i, hi, h1, h2, h3⟩ := info_parts (P := Tryz.prog) (e := 5) (z := .int .u8 0) (size := 1) (bytes := 1) (by kernel_rfl)
 exact ⟨Tryz.underlying84, ⟨i, _, hi, h1, h2, h3, rfl⟩, by decide⟩
theorem bv_ofNat {x : Nat} (h : x < 256) : Value.int .u8 (x : Int) = bv (UInt8.ofNat x) := by
 have : (UInt8.ofNat x).toNat = x := by simp; omega
 rw [bv, this]
end Go.Proofs.YtlminileigfkcaaGreat
namespace Go.Proofs.YtlminileigfkcaaGreat
open Go Go.RowKit
theorem u8_toNat {n : Nat} (h : n < 256) : (UInt8.ofNat n).toNat = n := by
 rw [UInt8.toNat_ofNat']
 omega
theorem ownRd {w : World} {e : TypeId} {A : Option Addr} {n cap size : Nat} {vs : List Value} (h : (Asr.own e size A n cap vs).holds w) : Rd w A n cap size vs := by
 obtain ⟨hl, h2⟩ := h
 rcases h2 with ⟨rfl, rfl, rfl⟩ | ⟨g, sp, rfl, hg, hc, _, hn⟩
 ·exact ⟨hl, Nat.le_refl _, fun h => by omega⟩
 ·refine ⟨hl, hn, fun _ => ⟨_, rfl, (Array.getElem?_eq_some_iff.1 hg).1, fun j v hv => ?_⟩⟩
  rw [add_lit, Nat.zero_add, cell_of_row w g j _ e _ hg]
  have hj := (List.getElem?_eq_some_iff.1 hv).1
  simp [List.getElem?_append_left hj, hv]
theorem Mem.weak {w0 w : World} {L : List Asr} {A B : Asr} (M : Mem w0 w (A :: L)) (hB : B.holds w) (hf : ∀ g, B.foot g → A.foot g) : Mem w0 w (B :: L) :=
 ⟨M.base, ⟨hB, fun C hC g hg => M.sep.2.1 C hC g (hf g hg), M.sep.2.2⟩, fun C hC g hg => by
  rcases List.mem_cons.1 hC with rfl | hC
  ·exact M.new _ (List.mem_cons_self ..) g (hf g hg)
  ·exact M.new C (List.mem_cons_of_mem _ hC) g hg⟩
theorem Sep.mem : ∀ {L : List Asr} {w : World}, Sep L w → ∀ A ∈ L, A.holds w
 | _ :: _, _, h, B, hB => by
   rcases List.mem_cons.1 hB with rfl | hB
   ·exact h.1
   ·exact Sep.mem h.2.2 B hB
/-- A list, and what it holds. -/
structure OX where
 A : Option Addr
 cap : Nat
 l : List UInt8
def OX.v (x : OX) : Value := .slice x.A x.l.length x.cap
def OX.O (x : OX) : Asr := Asr.own 5 1 x.A x.l.length x.cap (bs x.l)
/-- A list, and a longer one that begins with what it holds. -/
structure TX where
 A : Option Addr
 cap : Nat
 n : Nat
 A2 : Option Addr
 cap2 : Nat
 l : List UInt8
section
variable {P : Program} {n : Nat} {ρ : List (Nat × Value)} {w0 w : World} {rest : List Oper} {L : List Asr} {X : SqV P n} {Y : Sq P n}
variable {d : Nat} {ty : TypeId} {pos : String} {aft : Array Edge} {xx y : Operand} {t e : TypeId} {k : IntKind} {j : Int}
/-- The address of an element of one cell, and what is there. -/
theorem WL.idx1 {A : Option Addr} {c m : Nat} {vs : List Value} {v : Value} (ht : P.underlying t = some (.slice e)) (hs : ∀ w, (sizeOf e).run P w = .ok 1 w) (hx : ev ρ xx = some (.slice A m c)) (hy : ev ρ y = some (.int k j))
 (h : Rd w A m c 1 vs) (hv : vs[j.toNat]? = some v) (h0 : 0 ≤ j) (hd : Nat.blt d n = true)
 (kk : ∀ ad, w.cell? ad = some v → X.S rest ((d, .pointer (some ad)) :: ρ) w) :
 X.S (⟨some d, .indexAddr t xx y, ty, pos, aft, none⟩ :: rest) ρ w := by
 have hlt := (List.getElem?_eq_some_iff.1 hv).1
 have hl := h.len
 refine WL.idx ht hs hx hy h h0 (by omega) hd fun ad _ had => kk ad ?_
 have := had 0 (by omega)
 rw [Nat.mul_one, Nat.add_zero, hv] at this
 simpa [Addr.add] using this
end
theorem Tryz.elem84 : Elem Tryz.prog 82 84 1 24 := by
 obtain ⟨i, hi, h1, h2, h3⟩ := info_parts (P := Tryz.prog) (e := 84) (z := .slice none 0 0) (size := 1) (bytes := 24) (by kernel_rfl)
 exact ⟨Tryz.underlying82, ⟨i, _, hi, h1, h2, h3, rfl⟩, by decide⟩
end Go.Proofs.YtlminileigfkcaaGreat
namespace Go.Proofs.YtlminileigfkcaaGreat
open Go Go.RowKit
section
variable {P : Program} {n : Nat} {ρ : List (Nat × Value)} {w0 w : World} {rest : List Oper} {L : List Asr} {X : SqV P n} {Y : Sq P n}
variable {d : Nat} {ty : TypeId} {pos : String} {aft : Array Edge} {x y : Operand} {t e : TypeId} {k : IntKind} {i : Int}
/-- A new variable: zero. -/
theorem WL.alloc {z : Value} (hz : ∀ w, (zeroValue e).run P w = .ok z w) (M : Mem w0 w L) (hd : Nat.blt d n = true)
 (kk : ∀ g w', Mem w0 w' (Asr.row g e z.cells.toList :: L) → Y.S rest ((d, .pointer (some ⟨g, 0, none⟩)) :: ρ) w') :
 Y.S (⟨some d, .alloc e, ty, pos, aft, none⟩ :: rest) ρ w := by
 have M' := M.alloc (.cells z.cells e)
 refine WL.valW (v := .pointer (some ⟨w.heap.size, 0, none⟩)) (w' := w.alloc (.cells z.cells e)) rfl rfl hd (fun a _ => ?_) (kk w.heap.size _ (by simpa [Asr.row] using M'))
 simp [execOp, Instr.alloc, hz, newVar, newRow]
/-- A new variable that holds a value. -/
theorem WL.box {v : Value} (hx : ev ρ x = some v) (M : Mem w0 w L) (hd : Nat.blt d n = true)
 (kk : ∀ g w', Mem w0 w' (Asr.row g e v.cells.toList :: L) → Y.S rest ((d, .pointer (some ⟨g, 0, none⟩)) :: ρ) w') :
 Y.S (⟨some d, .box e x, ty, pos, aft, none⟩ :: rest) ρ w := by
 have M' := M.alloc (.cells v.cells e)
 refine WL.valW (v := .pointer (some ⟨w.heap.size, 0, none⟩)) (w' := w.alloc (.cells v.cells e)) rfl rfl hd (fun a ha => ?_) (kk w.heap.size _ (by simpa [Asr.row] using M'))
 simp [execOp, Instr.box, ha.eval hx, newVar, newRow]
/-- A struct's value. -/
theorem WL.build {parts : Array (Nat × Operand)} {fs : Array Field} {z : Value} {vs : List Value} {cells : Array Value} {places : Array (Nat × Nat)} (ht : P.underlying t = some (.struct fs)) (hz : ∀ w, (zeroValue t).run P w = .ok z w)
 (hp : ∀ w, (fs.mapM (m := Sem) fun (f : Field) => Prod.mk f.offset <$> sizeOf f.type).run P w = .ok places w) (hx : evs ρ (parts.toList.map (·.2)) = some vs)
 (hf : Instr.fill (places[·]?) z.cells ((parts.toList.map (·.1)).zip vs) = some cells) (hd : Nat.blt d n = true)
 (kk : X.S rest ((d, .agg cells) :: ρ) w) : X.S (⟨some d, .build t parts, ty, pos, aft, none⟩ :: rest) ρ w := by
 refine WL.val rfl rfl hd (fun a ha => ?_) kk
 have h1 : parts.toList.map (fun x => (x.1, a.eval x.2)) = (parts.toList.map (·.1)).zip vs := by
  have h2 := ha.evals hx
  rw [← h2]
  induction parts.toList with
  | nil => rfl
  | cons p ps ih => simp [ih]
 simp [execOp, Instr.build, hz, run_underlying ht, hp, h1, hf]
/-- A store of a whole value into what stands in front. -/
theorem WL.storeV {g o : Nat} {te : TypeId} {pre old suf : List Value} {v : Value} {s : Nat} (M : Mem w0 w (Asr.row g te (pre ++ old ++ suf) :: L)) (hs : ∀ w, (sizeOf t).run P w = .ok s w) (hx : ev ρ x = some (.pointer (some ⟨g, o, none⟩))) (hy : ev ρ y = some v)
 (hv : ∀ u ∈ v.cells.toList, u.oneCell' = true) (ho : pre.length = o) (hold : old.length = s) (hsz : v.cells.size = s) (kk : ∀ w', Mem w0 w' (Asr.row g te (pre ++ v.cells.toList ++ suf) :: L) → Y.S rest ρ w') :
 Y.S (⟨none, .store t x y, ty, pos, aft, none⟩ :: rest) ρ w := by
 have hg : w.heap[g]? = some (.cells (pre ++ old ++ suf).toArray te (0, 0)) := M.head
 have hlen : v.cells.toList.length = s := by simpa using hsz
 have hr := run_storeCells_at (P := P) g o te v.cells.toList 0 _ w hg (by simp; omega) hv
 have e1 : (pre ++ old ++ suf).toArray.toList.take (o + 0) ++ v.cells.toList ++ (pre ++ old ++ suf).toArray.toList.drop (o + 0 + v.cells.toList.length) = pre ++ v.cells.toList ++ suf := by
  rw [hlen, ← ho, ← hold]
  simp [List.append_assoc, List.drop_append]
 rw [e1] at hr
 have M2 : Mem w0 (w.setRow g (pre ++ v.cells.toList ++ suf).toArray) (Asr.row g te (pre ++ v.cells.toList ++ suf) :: L) :=
  M.write ⟨rfl, rfl, rfl, by simp, fun k _ hk => setRow_other w g k _ (fun e => hk e)⟩ (setRow_heap w g _ _ te _ hg) (fun _ hf => .inl hf)
 refine WL.unit rfl rfl (fun a ha => ?_) (kk _ M2)
 simp [execOp, ha.eval hx, ha.eval hy, Instr.storeAt, Instr.sureAddr, storeVar, hs, hsz, hr]
/-- A store of a whole value over a whole variable. -/
theorem WL.storeW {g : Nat} {te : TypeId} {old : List Value} {v : Value} {s : Nat} (M : Mem w0 w (Asr.row g te old :: L)) (hs : ∀ w, (sizeOf t).run P w = .ok s w) (hx : ev ρ x = some (.pointer (some ⟨g, 0, none⟩))) (hy : ev ρ y = some v)
 (hv : ∀ u ∈ v.cells.toList, u.oneCell' = true) (hold : old.length = s) (hsz : v.cells.size = s) (kk : ∀ w', Mem w0 w' (Asr.row g te v.cells.toList :: L) → Y.S rest ρ w') :
 Y.S (⟨none, .store t x y, ty, pos, aft, none⟩ :: rest) ρ w :=
 WL.storeV (pre := []) (suf := []) (old := old) (by simpa using M) hs hx hy hv rfl hold hsz (by simpa using kk)
/-- A load of a whole struct. -/
theorem WL.loadAgg {ad : Addr} {cs : List Value} (hA : ∀ w, (isAgg t).run P w = .ok true w) (hs : ∀ w, (sizeOf t).run P w = .ok cs.length w) (hx : ev ρ x = some (.pointer (some ad))) (hc : ∀ j v, cs[j]? = some v → w.cell? (ad.add j) = some v) (hd : Nat.blt d n = true)
 (kk : X.S rest ((d, .agg cs.toArray) :: ρ) w) : X.S (⟨some d, .load t x, ty, pos, aft, none⟩ :: rest) ρ w :=
 WL.val rfl rfl hd (fun a ha => by simp [execOp, ha.eval hx, Instr.loadAt, Instr.sureAddr, loadVar, hA, hs, run_loadCells_list (P := P) w ad cs hc]) kk
theorem run_loadVarAgg {ad : Addr} {cs : List Value} (hA : ∀ w, (isAgg t).run P w = .ok true w) (hs : ∀ w, (sizeOf t).run P w = .ok cs.length w) (hc : ∀ j v, cs[j]? = some v → w.cell? (ad.add j) = some v) :
 (loadVar t ad).run P w = .ok (.agg cs.toArray) w := by
 simp [loadVar, hA, hs, run_loadCells_list (P := P) w ad cs hc]
theorem Mem.cells {g : Nat} {cs : List Value} (M : Mem w0 w (Asr.row g e cs :: L)) : ∀ j v, cs[j]? = some v → w.cell? ((⟨g, 0, none⟩ : Addr).add j) = some v := fun j v hj => by
 rw [add_lit, Nat.zero_add, M.cell, hj]
theorem WX.retC3 {fn : Func} {R : Value → World → Prop} {p u s : Tmp} {v2 v3 : Value} {ad : Addr} {cs : List Value} (hr : fn.results = #[.cell p t, .tmp u, .tmp s]) (h1 : envGet ρ p = some (.pointer (some ad))) (h2 : envGet ρ u = some v2) (h3 : envGet ρ s = some v3)
 (hA : ∀ w, (isAgg t).run P w = .ok true w) (hs : ∀ w, (sizeOf t).run P w = .ok cs.length w) (hc : ∀ j v, cs[j]? = some v → w.cell? (ad.add j) = some v)
 (h : R (.tuple #[.agg cs.toArray, v2, v3]) w) : WX (Done P fn R) .ret n ρ w := fun a ha => ⟨ha.defers, _, by
  have e1 := ha.tmp h1
  have e2 := ha.tmp h2
  have e3 := ha.tmp h3
  simp only [results, hr]
  simp only [Array.getD_eq_getD_getElem?] at e1 e2 e3
  simp [e1, e2, e3, asAddr, run_loadVarAgg (P := P) hA hs hc], _, rfl, h⟩
end
end Go.Proofs.YtlminileigfkcaaGreat
namespace Go.Proofs.YtlminileigfkcaaGreat
open Go Go.RowKit
end Go.Proofs.YtlminileigfkcaaGreat
namespace Go.Proofs.YtlminileigfkcaaGreat
open Go Go.RowKit
inductive Has (A : Asr) : List Asr → Prop
 | here {L : List Asr} : Has A (A :: L)
 | there {B : Asr} {L : List Asr} : Has A L → Has A (B :: L)
inductive Upd (A B : Asr) : List Asr → List Asr → Prop
 | here {L : List Asr} : Upd A B (A :: L) (B :: L)
 | there {C : Asr} {L L' : List Asr} : Upd A B L L' → Upd A B (C :: L) (C :: L')
inductive Del (A : Asr) : List Asr → List Asr → Prop
 | here {L : List Asr} : Del A (A :: L) L
 | there {C : Asr} {L L' : List Asr} : Del A L L' → Del A (C :: L) (C :: L')
/-- K is picked out of L. -/
inductive Sel : List Asr → List Asr → Prop
 | refl {L : List Asr} : Sel L L
 | nil {L : List Asr} : Sel L []
 | cons {A : Asr} {L L1 K : List Asr} : Del A L L1 → Sel L1 K → Sel L (A :: K)
 | drop {A : Asr} {L K : List Asr} : Sel L K → Sel (A :: L) K
theorem Del.perm {A : Asr} {L L' : List Asr} (h : Del A L L') : L.Perm (A :: L') := by
 induction h with
 | here => exact List.Perm.refl _
 | there _ ih => exact (List.Perm.cons _ ih).trans (List.Perm.swap ..)
/-! What stands where, by search. -/
theorem Has.a {A : Asr} {L : List Asr} (h : Has A L := by first | ((repeat (first | with_reducible exact Has.here | with_reducible refine Has.there ?_)); done) | (repeat (first | exact Has.here | refine Has.there ?_))) : Has A L := h
theorem Del.a {A : Asr} {L L' : List Asr} (h : Del A L L' := by first | ((repeat (first | with_reducible exact Del.here | with_reducible apply Del.there)); done) | (repeat (first | exact Del.here | apply Del.there))) : Del A L L' := h
theorem Upd.a {A B : Asr} {L L' : List Asr} (h : Upd A B L L' := by first | ((repeat (first | with_reducible exact Upd.here | with_reducible apply Upd.there)); done) | (repeat (first | exact Upd.here | apply Upd.there))) : Upd A B L L' := h
theorem Sel.a {L K : List Asr} (h : Sel L K := by first | ((repeat (first | with_reducible exact Sel.refl | with_reducible exact Sel.nil | with_reducible exact Del.here | with_reducible apply Del.there | with_reducible apply Sel.cons | with_reducible apply Sel.drop)); done) | (repeat (first | exact Sel.refl | exact Sel.nil | exact Del.here | apply Del.there | apply Sel.cons | apply Sel.drop))) : Sel L K := h
theorem Has.del {A : Asr} {L : List Asr} (h : Has A L) : ∃ L', Del A L L' := by
 induction h with
 | here => exact ⟨_, .here⟩
 | there _ ih => obtain ⟨L', h⟩ := ih; exact ⟨_, .there h⟩
theorem Upd.perm {A B : Asr} {L L' : List Asr} (h : Upd A B L L') : ∃ K, L.Perm (A :: K) ∧ L'.Perm (B :: K) := by
 induction h with
 | here => exact ⟨_, List.Perm.refl _, List.Perm.refl _⟩
 | there _ ih => obtain ⟨K, h1, h2⟩ := ih; exact ⟨_, (List.Perm.cons _ h1).trans (List.Perm.swap ..), (List.Perm.cons _ h2).trans (List.Perm.swap ..)⟩
section
variable {w0 w w' : World} {L L' K : List Asr} {A B : Asr}
theorem Mem.del (M : Mem w0 w L) (h : Del A L L') : Mem w0 w (A :: L') := M.perm h.perm
theorem Mem.has (M : Mem w0 w L) (h : Has A L) : A.holds w := by obtain ⟨L', h⟩ := h.del; exact (M.del h).head
theorem Mem.sel (M : Mem w0 w L) (h : Sel L K) : Mem w0 w K := by
 have key : ∀ {L K : List Asr}, Sel L K → ∃ R, L.Perm (K ++ R) := by
  intro L K h
  induction h with
  | refl => exact ⟨[], by simp⟩
  | nil => exact ⟨_, List.Perm.refl _⟩
  | cons hd _ ih => obtain ⟨R, h⟩ := ih; exact ⟨R, hd.perm.trans (List.Perm.cons _ h)⟩
  | drop _ ih => obtain ⟨R, h⟩ := ih; exact ⟨_ :: R, (List.Perm.cons _ h).trans (by simpa using (List.perm_middle (l₁ := _) (l₂ := R)).symm)⟩
 obtain ⟨R, h⟩ := key h
 have M1 := M.perm h
 refine ⟨M1.base, ?_, fun C hC => M1.new C (List.mem_append_left _ hC)⟩
 have : ∀ (K : List Asr), Sep (K ++ R) w → Sep K w := by
  intro K
  induction K with
  | nil => intro _; trivial
  | cons C K ih => intro h; exact ⟨h.1, fun D hD => h.2.1 D (List.mem_append_left _ hD), ih h.2.2⟩
 exact this K M1.sep
theorem Mem.call0 (M : Mem w0 w L) (h : Mem w w' []) : Mem w0 w' L := M.call h
theorem Mem.call1 (M : Mem w0 w L) (h : Mem w w' [A]) : Mem w0 w' (A :: L) := M.call h
theorem Mem.callN (M : Mem w0 w L) (h : Mem w w' K) : Mem w0 w' (K ++ L) := M.call h
end
/-- Many, as one. -/
def Asr.star (K : List Asr) : Asr where
 foot := fun g => ∃ A ∈ K, A.foot g
 holds := fun w => Sep K w
 bound := fun _ h g ⟨A, hA, hg⟩ => h.bound A hA g hg
 stays := fun _ _ hk h => h.stays fun A hA g hg => hk g ⟨A, hA, hg⟩
section
variable {w0 w : World} {L K : List Asr}
theorem Mem.star (M : Mem w0 w (K ++ L)) : Mem w0 w (Asr.star K :: L) := by
 have hs : ∀ (K : List Asr), Sep (K ++ L) w → Sep K w ∧ Sep L w ∧ (∀ A ∈ K, ∀ B ∈ L, ∀ g, A.foot g → ¬ B.foot g) := by
  intro K
  induction K with
  | nil => intro h; exact ⟨trivial, h, fun A hA => by cases hA⟩
  | cons C K ih =>
    intro h
    obtain ⟨h1, h2, h3⟩ := ih h.2.2
    refine ⟨⟨h.1, fun D hD => h.2.1 D (List.mem_append_left _ hD), h1⟩, h2, fun A hA B hB => ?_⟩
    rcases List.mem_cons.1 hA with rfl | hA
    ·exact h.2.1 B (List.mem_append_right _ hB)
    ·exact h3 A hA B hB
 obtain ⟨h1, h2, h3⟩ := hs K M.sep
 refine ⟨M.base, ⟨h1, fun B hB g ⟨A, hA, hg⟩ => h3 A hA B hB g hg, h2⟩, fun B hB g hg => ?_⟩
 rcases List.mem_cons.1 hB with rfl | hB
 ·obtain ⟨A, hA, hg⟩ := hg
  exact M.new A (List.mem_append_left _ hA) g hg
 ·exact M.new B (List.mem_append_right _ hB) g hg
theorem Mem.unstar (M : Mem w0 w (Asr.star K :: L)) : Mem w0 w (K ++ L) := by
 refine ⟨M.base, ?_, fun B hB g hg => ?_⟩
 ·exact Sep.append M.sep.1 M.sep.2.2 fun A hA B hB g hg => M.sep.2.1 B hB g ⟨A, hA, hg⟩
 ·rcases List.mem_append.1 hB with hB | hB
  ·exact M.new _ (List.mem_cons_self ..) g ⟨B, hB, hg⟩
  ·exact M.new B (List.mem_cons_of_mem _ hB) g hg
theorem Mem.starNil (M : Mem w0 w L) : Mem w0 w (Asr.star [] :: L) := Mem.star (K := []) M
theorem Mem.starSnoc {A : Asr} (M : Mem w0 w (A :: Asr.star K :: L)) : Mem w0 w (Asr.star (K ++ [A]) :: L) := by
 have h := M.f1.unstar
 refine Mem.star ?_
 rw [List.append_assoc]
 exact h
end
section
variable {w0 w : World} {L K K' : List Asr} {A B C D : Asr}
theorem Mem.unstar1 (M : Mem w0 w (Asr.star [A] :: L)) : Mem w0 w (A :: L) := M.unstar
theorem Mem.star1 (M : Mem w0 w (A :: L)) : Mem w0 w (Asr.star [A] :: L) := Mem.star M
theorem Mem.unstar3 (M : Mem w0 w (Asr.star [A, B, C] :: L)) : Mem w0 w (A :: B :: C :: L) := M.unstar
theorem Mem.star3 (M : Mem w0 w (A :: B :: C :: L)) : Mem w0 w (Asr.star [A, B, C] :: L) := Mem.star (K := [A, B, C]) M
theorem Mem.unstar4 (M : Mem w0 w (Asr.star [A, B, C, D] :: L)) : Mem w0 w (A :: B :: C :: D :: L) := M.unstar
theorem Mem.star4 (M : Mem w0 w (A :: B :: C :: D :: L)) : Mem w0 w (Asr.star [A, B, C, D] :: L) := Mem.star (K := [A, B, C, D]) M
theorem Mem.starHas {α : Type} {f : α → Asr} {l : List α} (M : Mem w0 w L) (h : Has (Asr.star (l.map f)) L) {x : α} (hx : x ∈ l) : (f x).holds w := by
 have hs : Sep (l.map f) w := M.has h
 exact Sep.mem hs (f x) (List.mem_map_of_mem hx)
end
/-! ### addresses, written out -/
def cutA (A : Option Addr) (l size c : Nat) : Option Addr := if c = l then A else A.map (·.add (l * size))
/-- k cells on from where A lies. -/
def atA (A : Option Addr) (k : Nat) : Addr := (A.getD default).add k
theorem atA_some (a : Addr) (k : Nat) : atA (some a) k = a.add k := rfl
theorem atA_lit (g o k : Nat) : atA (some ⟨g, o, none⟩) k = ⟨g, o + k, none⟩ := by rw [atA_some, add_lit]
theorem atA_add (A : Option Addr) (k o : Nat) : (atA A k).add o = atA A (k + o) := add_add ..
section
variable {w : World} {A : Option Addr} {n c size : Nat} {vs : List Value}
theorem Rd.cellAt (h : Rd w A n c size vs) {k : Nat} {v : Value} (hv : vs[k]? = some v) : w.cell? (atA A k) = some v := by
 have hk := (List.getElem?_eq_some_iff.1 hv).1
 have hl := h.len
 obtain ⟨ad, rfl, _, hc⟩ := h.at_ (Nat.pos_of_ne_zero fun h0 => by rw [h0, Nat.zero_mul] at hl; omega)
 exact hc k v hv
theorem Rd.isSome (h : Rd w A n c size vs) (hn : 0 < n) : A.isSome = true := by obtain ⟨ad, rfl, _⟩ := h.at_ hn; rfl
theorem Rd.cutAt (h : Rd w A n c size vs) {l m : Nat} (hlm : l ≤ m) (hm : m ≤ n) : Rd w (cutA A l size c) (m - l) (c - l) size ((vs.drop (l * size)).take ((m - l) * size)) := h.cut hlm hm
end
/-! ### lists of things -/
/-- How a thing lies in cells. -/
structure Enc (α : Type) where
 e : TypeId
 size : Nat
 cells : α → List Value
 len : ∀ a, (cells a).length = size
 one : ∀ a, ∀ v ∈ cells a, v.oneCell' = true
 pos : 0 < size
def Enc.all {α : Type} (E : Enc α) (l : List α) : List Value := l.flatMap E.cells
def el {α : Type} [Inhabited α] (l : List α) (k : Nat) : α := l[k]?.getD default
section
variable {α : Type} (E : Enc α)
theorem Enc.all_length (l : List α) : (E.all l).length = l.length * E.size := by
 unfold Enc.all
 induction l with
 | nil => simp
 | cons x l ih => rw [List.flatMap_cons, List.length_append, ih, E.len, List.length_cons, Nat.add_mul]; omega
theorem Enc.all_append (l m : List α) : E.all (l ++ m) = E.all l ++ E.all m := by simp [Enc.all]
theorem Enc.all_one (l : List α) : ∀ v ∈ E.all l, v.oneCell' = true := by
 intro v hv
 obtain ⟨a, _, h⟩ := List.mem_flatMap.1 hv
 exact E.one a v h
theorem Enc.all_drop (l : List α) (k : Nat) : (E.all l).drop (k * E.size) = E.all (l.drop k) := by
 induction k generalizing l with
 | zero => simp
 | succ k ih =>
   cases l with
   | nil => simp [Enc.all]
   | cons x l =>
     have : E.all (x :: l) = E.cells x ++ E.all l := rfl
     rw [this, List.drop_append, List.drop_eq_nil_of_le (by rw [E.len, Nat.add_mul]; omega), List.nil_append, E.len, show (k + 1) * E.size - E.size = k * E.size by rw [Nat.add_mul]; omega, ih]
     rfl
theorem Enc.all_take (l : List α) (k : Nat) : (E.all l).take (k * E.size) = E.all (l.take k) := by
 induction k generalizing l with
 | zero => simp [Enc.all]
 | succ k ih =>
   cases l with
   | nil => simp [Enc.all]
   | cons x l =>
     have : E.all (x :: l) = E.cells x ++ E.all l := rfl
     rw [this, List.take_append, List.take_of_length_le (by rw [E.len, Nat.add_mul]; omega), E.len, show (k + 1) * E.size - E.size = k * E.size by rw [Nat.add_mul]; omega, ih]
     rfl
theorem Enc.all_get [Inhabited α] (l : List α) (k o : Nat) (hk : k < l.length) (ho : o < E.size) : (E.all l)[k * E.size + o]? = (E.cells (el l k))[o]? := by
 rw [← List.getElem?_drop, E.all_drop]
 have h1 : l.drop k = el l k :: l.drop (k + 1) := by
  rw [List.drop_eq_getElem_cons hk]
  simp [el, hk]
 rw [h1]
 show (E.cells (el l k) ++ E.all (l.drop (k + 1)))[o]? = _
 rw [List.getElem?_append_left (by rw [E.len]; exact ho)]
theorem Enc.all_set (l : List α) (k : Nat) (x : α) (hk : k < l.length) : E.all (l.set k x) = (E.all l).take (k * E.size) ++ E.cells x ++ (E.all l).drop ((k + 1) * E.size) := by
 rw [E.all_take, E.all_drop, List.set_eq_take_append_cons_drop, if_pos hk]
 simp [Enc.all]
theorem Enc.all_setCell [Inhabited α] (l : List α) (k o : Nat) (x : α) (v : Value) (hk : k < l.length) (ho : o < E.size) (hx : E.cells x = (E.cells (el l k)).set o v) :
 (E.all l).set (k * E.size + o) v = E.all (l.set k x) := by
 have hlen : (E.all (l.take k)).length = k * E.size := by rw [E.all_length, List.length_take, Nat.min_eq_left (by omega)]
 have h1 : E.all l = E.all (l.take k) ++ (E.cells (el l k) ++ E.all (l.drop (k + 1))) := by
  have h2 : l = l.take k ++ (el l k :: l.drop (k + 1)) := by
   conv => lhs; rw [← List.take_append_drop k l]
   rw [List.drop_eq_getElem_cons hk]
   simp [el, hk]
  conv => lhs; rw [h2]
  rw [E.all_append]
  rfl
 have h3 : E.all (l.set k x) = E.all (l.take k) ++ (E.cells x ++ E.all (l.drop (k + 1))) := by
  rw [List.set_eq_take_append_cons_drop, if_pos hk, E.all_append]
  rfl
 rw [h3, h1, hx, List.set_append, if_neg (by omega), hlen, show k * E.size + o - k * E.size = o by omega, List.set_append, if_pos (by rw [E.len]; exact ho)]
end
theorem el_set {α : Type} [Inhabited α] (l : List α) (k j : Nat) (x : α) (hk : k < l.length) : el (l.set k x) j = if k = j then x else el l j := by
 unfold el
 rw [List.getElem?_set]
 by_cases h : k = j
 ·subst h; simp [hk]
 ·simp [h]
theorem el_get {α : Type} [Inhabited α] {l : List α} {k : Nat} (hk : k < l.length) : l[k]? = some (el l k) := by simp [el, hk]
theorem el_mem {α : Type} [Inhabited α] {l : List α} {k : Nat} (hk : k < l.length) : el l k ∈ l := List.mem_of_getElem? (el_get hk)
theorem el_append_left {α : Type} [Inhabited α] {l m : List α} {k : Nat} (hk : k < l.length) : el (l ++ m) k = el l k := by unfold el; rw [List.getElem?_append_left hk]
theorem el_append_right {α : Type} [Inhabited α] {l m : List α} {k : Nat} (hk : l.length ≤ k) : el (l ++ m) k = el m (k - l.length) := by unfold el; rw [List.getElem?_append_right hk]
/-- A slice over things, its only owner. -/
def Asr.lst {α : Type} (E : Enc α) (A : Option Addr) (cap : Nat) (l : List α) : Asr := Asr.own E.e E.size A l.length cap (E.all l)
/-- A slice over things can be read. -/
def RdL {α : Type} (w : World) (E : Enc α) (A : Option Addr) (cap : Nat) (l : List α) : Prop := Rd w A l.length cap E.size (E.all l)
section
variable {α : Type} {E : Enc α} {w0 w w' : World} {A : Option Addr} {cap : Nat} {l : List α} {L L' : List Asr}
theorem RdL.mem (h : RdL w E A cap l) (M : Mem w w' L) : RdL w' E A cap l := Rd.mem h M
theorem Mem.rdL (M : Mem w0 w L) (h : Has (Asr.lst E A cap l) L) : RdL w E A cap l := ownRd (M.has h)
theorem Mem.rdB {e : TypeId} {l : List UInt8} (M : Mem w0 w L) (h : Has (Asr.own e 1 A l.length cap (bs l)) L) : RdB w A cap l := ownRd (M.has h)
theorem Mem.cellH {g : Nat} {t : TypeId} {cs : List Value} (M : Mem w0 w L) (h : Has (Asr.row g t cs) L) (i : Nat) : w.cell? ⟨g, i, none⟩ = cs[i]? := by
 obtain ⟨L', h⟩ := h.del
 exact (M.del h).cell i
theorem Mem.cellsH {g : Nat} {t : TypeId} {cs : List Value} (M : Mem w0 w L) (h : Has (Asr.row g t cs) L) : ∀ j v, cs[j]? = some v → w.cell? ((⟨g, 0, none⟩ : Addr).add j) = some v := fun j v hj => by
 rw [add_lit, Nat.zero_add, M.cellH h, hj]
theorem RdL.cell [Inhabited α] (h : RdL w E A cap l) {k o : Nat} {v : Value} (hk : k < l.length) (hv : (E.cells (el l k))[o]? = some v) : w.cell? (atA A (k * E.size + o)) = some v := by
 refine Rd.cellAt h ?_
 rw [E.all_get l k o hk (by have := (List.getElem?_eq_some_iff.1 hv).1; rw [E.len] at this; exact this), hv]
theorem RdL.cutAt (h : RdL w E A cap l) {i j : Nat} (hij : i ≤ j) (hj : j ≤ l.length) : RdL w E (cutA A i E.size cap) (cap - i) ((l.drop i).take (j - i)) := by
 have h1 := Rd.cutAt h hij hj
 have e : ((l.drop i).take (j - i)).length = j - i := by simp; omega
 unfold RdL
 rw [e, ← E.all_take, ← E.all_drop]
 exact h1
theorem RdL.suf (h : RdL w E A cap l) {i : Nat} (hi : i ≤ l.length) : RdL w E (cutA A i E.size cap) (cap - i) (l.drop i) := by
 have h1 := h.cutAt hi (Nat.le_refl _)
 rwa [List.take_of_length_le (by rw [List.length_drop]; omega)] at h1
theorem RdL.nil (w : World) (E : Enc α) (c : Nat) : RdL w E none c [] := Rd.nil w c _
end
/-- What a list of things is after a change of one cell. -/
inductive SetAt (v : Value) : List Value → Nat → List Value → Prop
 | zero {x : Value} {cs : List Value} : SetAt v (x :: cs) 0 (v :: cs)
 | succ {x : Value} {cs cs' : List Value} {o : Nat} : SetAt v cs o cs' → SetAt v (x :: cs) (o + 1) (x :: cs')
theorem SetAt.eq {v : Value} {cs cs' : List Value} {o : Nat} (h : SetAt v cs o cs') : cs.set o v = cs' := by
 induction h with
 | zero => rfl
 | succ _ ih => rw [List.set_cons_succ, ih]
theorem SetAt.lt {v : Value} {cs cs' : List Value} {o : Nat} (h : SetAt v cs o cs') : o < cs.length := by
 induction h with
 | zero => simp
 | succ _ ih => rw [List.length_cons]; omega
end Go.Proofs.YtlminileigfkcaaGreat
namespace Go.Proofs.YtlminileigfkcaaGreat
open Go Go.RowKit
/-- A byte of a number. -/
def u8 (e : Int) : UInt8 := UInt8.ofNat e.toNat
theorem u8_toNat' {e : Int} (h0 : 0 ≤ e) (h1 : e < 256) : ((u8 e).toNat : Int) = e := by
 unfold u8
 rw [UInt8.toNat_ofNat']
 omega
theorem bv_u8 {e : Int} (h0 : 0 ≤ e) (h1 : e < 256) : Value.int .u8 e = bv (u8 e) := by rw [bv, u8_toNat' h0 h1]
theorem RdB.cellAt' {w : World} {A : Option Addr} {cap : Nat} {l : List UInt8} (h : RdB w A cap l) {k : Nat} (hk : k < l.length) : w.cell? (atA A k) = some (.int .u8 ((el l k).toNat : Int)) :=
 Rd.cellAt h (by rw [bs_get, el_get hk]; rfl)
theorem RdB.isSome {w : World} {A : Option Addr} {cap : Nat} {l : List UInt8} (h : RdB w A cap l) (hl : 0 < l.length) : A.isSome = true := Rd.isSome h hl
theorem RdL.isSome {α : Type} {E : Enc α} {w : World} {A : Option Addr} {cap : Nat} {l : List α} (h : RdL w E A cap l) (hl : 0 < l.length) : A.isSome = true := Rd.isSome h hl
/-- Bytes of l from i up to j. -/
def sub (l : List UInt8) (i j : Nat) : List UInt8 := (l.drop i).take (j - i)
theorem sub_length {l : List UInt8} {i j : Nat} (hij : i ≤ j) (hj : j ≤ l.length) : (sub l i j).length = j - i := by unfold sub; simp; omega
theorem RdB.sub {w : World} {A : Option Addr} {cap : Nat} {l : List UInt8} (h : RdB w A cap l) {i j : Nat} (hij : i ≤ j) (hj : j ≤ l.length) : RdB w (cutA A i 1 cap) (cap - i) (sub l i j) := by
 have := Rd.cutAt h hij hj
 unfold RdB
 rw [sub_length hij hj, Proofs.YtlminileigfkcaaGreat.sub, ← bs_take, ← bs_drop]
 simpa using this
/-- Readable as long as L stands. -/
def RdH (w0 : World) (L : List Asr) (A : Option Addr) (cap : Nat) (l : List UInt8) : Prop := ∀ w, Mem w0 w L → RdB w A cap l
theorem RdH.at {w0 w : World} {L : List Asr} {A : Option Addr} {cap : Nat} {l : List UInt8} (h : RdH w0 L A cap l) (M : Mem w0 w L) : RdB w A cap l := h w M
def RdLH {α : Type} (w0 : World) (L : List Asr) (E : Enc α) (A : Option Addr) (cap : Nat) (l : List α) : Prop := ∀ w, Mem w0 w L → RdL w E A cap l
theorem RdLH.at {α : Type} {E : Enc α} {w0 w : World} {L : List Asr} {A : Option Addr} {cap : Nat} {l : List α} (h : RdLH w0 L E A cap l) (M : Mem w0 w L) : RdL w E A cap l := h w M
section
variable {P : Program} {n : Nat} {ρ : List (Nat × Value)} {w0 w : World} {rest : List Oper} {L L' : List Asr} {X : SqV P n} {Y : Sq P n}
variable {d : Nat} {ty : TypeId} {pos : String} {aft : Array Edge} {x y : Operand} {t e : TypeId} {k : IntKind} {i j : Int} {α : Type} {E : Enc α}
/-! ### addresses -/
theorem WL.idxA {A : Option Addr} {m c size jn : Nat} (ht : P.underlying t = some (.slice e)) (hs : ∀ w, (sizeOf e).run P w = .ok size w) (hx : ev ρ x = some (.slice A m c)) (hy : ev ρ y = some (.int k j))
 (hA : A.isSome = true) (h0 : 0 ≤ j) (h1 : j < m) (hj : j = (jn : Int)) (hd : Nat.blt d n = true)
 (kk : X.S rest ((d, .pointer (some (atA A (jn * size)))) :: ρ) w) : X.S (⟨some d, .indexAddr t x y, ty, pos, aft, none⟩ :: rest) ρ w := by
 subst hj
 rw [show jn = ((jn : Int)).toNat from rfl] at kk
 obtain ⟨ad, rfl⟩ := Option.isSome_iff_exists.1 hA
 exact WL.val rfl rfl hd (fun a ha => by simp [execOp, ha.eval hx, ha.eval hy, Instr.indexAt, run_underlying ht, asIntOf, (by omega : jn < m), hs, atA]) kk
theorem fieldPlace_run {ad : Addr} {f : Field} {s : Nat} (hs : ∀ w, (sizeOf f.type).run P w = .ok s w) (hp : 0 < s) (w : World) : (fieldPlace ad f).run P w = .ok (ad.add f.offset) w := by
 unfold fieldPlace
 have : s ≠ 0 := by omega
 simp [hs, this]
theorem WL.fieldR {g off : Nat} {fs : Array Field} {f : Field} {fi s : Nat} (ht : P.underlying t = some (.struct fs)) (hf : fs[fi]? = some f) (hoff : f.offset = off) (hs : ∀ w, (sizeOf f.type).run P w = .ok s w) (hp : Nat.blt 0 s = true)
 (hx : ev ρ x = some (.pointer (some ⟨g, 0, none⟩))) (hd : Nat.blt d n = true)
 (kk : X.S rest ((d, .pointer (some ⟨g, off, none⟩)) :: ρ) w) : X.S (⟨some d, .fieldAddr t x fi, ty, pos, aft, none⟩ :: rest) ρ w := by
 subst hoff
 refine WL.fieldAddr ht hf hx (fun w => fieldPlace_run hs (by simpa [Nat.blt_eq] using hp) w) hd ?_
 rw [add_lit, Nat.zero_add]
 exact kk
theorem WL.fieldA {A : Option Addr} {k off : Nat} {fs : Array Field} {f : Field} {fi s : Nat} (ht : P.underlying t = some (.struct fs)) (hf : fs[fi]? = some f) (hoff : f.offset = off) (hs : ∀ w, (sizeOf f.type).run P w = .ok s w) (hp : Nat.blt 0 s = true)
 (hx : ev ρ x = some (.pointer (some (atA A k)))) (hd : Nat.blt d n = true)
 (kk : X.S rest ((d, .pointer (some (atA A (k + off)))) :: ρ) w) : X.S (⟨some d, .fieldAddr t x fi, ty, pos, aft, none⟩ :: rest) ρ w := by
 subst hoff
 refine WL.fieldAddr ht hf hx (fun w => fieldPlace_run hs (by simpa [Nat.blt_eq] using hp) w) hd ?_
 rw [atA_add]
 exact kk
theorem WL.fieldRO {g o off : Nat} {fs : Array Field} {f : Field} {fi s : Nat} (ht : P.underlying t = some (.struct fs)) (hf : fs[fi]? = some f) (hoff : f.offset = off) (hs : ∀ w, (sizeOf f.type).run P w = .ok s w) (hp : Nat.blt 0 s = true)
 (hx : ev ρ x = some (.pointer (some ⟨g, o, none⟩))) (hd : Nat.blt d n = true)
 (kk : X.S rest ((d, .pointer (some ⟨g, o + off, none⟩)) :: ρ) w) : X.S (⟨some d, .fieldAddr t x fi, ty, pos, aft, none⟩ :: rest) ρ w := by
 subst hoff
 refine WL.fieldAddr ht hf hx (fun w => fieldPlace_run hs (by simpa [Nat.blt_eq] using hp) w) hd ?_
 rw [add_lit]
 exact kk
/-- A field of a struct's value. -/
theorem WL.fieldV {cs : Array Value} {v : Value} {fs : Array Field} {f : Field} {fi : Nat} (ht : P.underlying t = some (.struct fs)) (hf : fs[fi]? = some f) (hx : ev ρ x = some (.agg cs)) (hp : ∀ w, (part f.type cs f.offset).run P w = .ok v w) (hd : Nat.blt d n = true)
 (kk : X.S rest ((d, v) :: ρ) w) : X.S (⟨some d, .field t x fi, ty, pos, aft, none⟩ :: rest) ρ w :=
 WL.val rfl rfl hd (fun a ha => by simp [execOp, ha.eval hx, Instr.field, run_underlying ht, hf, asAgg, hp]) kk
/-! ### pointers against nil -/
theorem run_equalIn_ptrNil {t u : TypeId} (a : Option Addr) (ht : P.underlying t = some (.pointer u)) (w : World) : (Op.equalIn (9999 + 1) t (.pointer a) (.pointer none)).run P w = .ok a.isNone w := by
 unfold Op.equalIn
 cases a <;> simp only [Sem.run_bind, run_underlying ht, Result.andThen_ok, Sem.run_pure, Option.isNone]
theorem WL.eqNil {a : Option Addr} {u t' : TypeId} (ht : P.underlying t = some (.pointer u)) (hx : ev ρ x = some (.pointer a)) (hy : ev ρ y = some (.pointer none)) (hd : Nat.blt d n = true)
 (kk : X.S rest ((d, .bool a.isNone) :: ρ) w) : X.S (⟨some d, .binOp .eql t x y t', ty, pos, aft, none⟩ :: rest) ρ w :=
 WL.bin hx hy (by exact eqGuard_at_pointer ..) (by
  simp only [binOp]
  simp [Op.equal, Op.maxDepth, run_equalIn_ptrNil a ht w]) hd kk
theorem WL.neNil {a : Option Addr} {u t' : TypeId} (ht : P.underlying t = some (.pointer u)) (hx : ev ρ x = some (.pointer a)) (hy : ev ρ y = some (.pointer none)) (hd : Nat.blt d n = true)
 (kk : X.S rest ((d, .bool (!a.isNone)) :: ρ) w) : X.S (⟨some d, .binOp .neq t x y t', ty, pos, aft, none⟩ :: rest) ρ w :=
 WL.bin hx hy (by exact eqGuard_at_pointer ..) (by
  simp only [binOp]
  simp [Op.equal, Op.maxDepth, run_equalIn_ptrNil a ht w]) hd kk
theorem WL.eqNilF {ad : Addr} {u t' : TypeId} (ht : P.underlying t = some (.pointer u)) (hx : ev ρ x = some (.pointer (some ad))) (hy : ev ρ y = some (.pointer none)) (hd : Nat.blt d n = true)
 (kk : X.S rest ((d, .bool false) :: ρ) w) : X.S (⟨some d, .binOp .eql t x y t', ty, pos, aft, none⟩ :: rest) ρ w := WL.eqNil ht hx hy hd kk
theorem WL.neNilT {ad : Addr} {u t' : TypeId} (ht : P.underlying t = some (.pointer u)) (hx : ev ρ x = some (.pointer (some ad))) (hy : ev ρ y = some (.pointer none)) (hd : Nat.blt d n = true)
 (kk : X.S rest ((d, .bool true) :: ρ) w) : X.S (⟨some d, .binOp .neq t x y t', ty, pos, aft, none⟩ :: rest) ρ w := WL.neNil ht hx hy hd kk
theorem WL.extractL {vs : List Value} {i : Nat} {v : Value} (hx : ev ρ x = some (.tuple vs.toArray)) (hv : vs[i]? = some v) (hd : Nat.blt d n = true)
 (k : X.S rest ((d, v) :: ρ) w) : X.S (⟨some d, .extract x i, ty, pos, aft, none⟩ :: rest) ρ w := WL.extract hx (by simpa using hv) hd k
/-! ### loads -/
/-- From a variable. -/
theorem WL.loadR {g o : Nat} {te : TypeId} {cs : List Value} {v : Value} (hA : ∀ w, (isAgg t).run P w = .ok false w) (hx : ev ρ x = some (.pointer (some ⟨g, o, none⟩))) (M : Mem w0 w L) (h : Has (Asr.row g te cs) L) (hv : cs[o]? = some v) (hd : Nat.blt d n = true)
 (kk : X.S rest ((d, v) :: ρ) w) : X.S (⟨some d, .load t x, ty, pos, aft, none⟩ :: rest) ρ w :=
 WL.load hA hx (by rw [M.cellH h, hv]) hd kk
/-- A byte. -/
theorem WL.loadB {A : Option Addr} {cap j : Nat} {l : List UInt8} (hA : ∀ w, (isAgg t).run P w = .ok false w) (hx : ev ρ x = some (.pointer (some (atA A (j * 1))))) (h : RdB w A cap l) (hj : j < l.length) (hd : Nat.blt d n = true)
 (kk : X.S rest ((d, .int .u8 ((el l j).toNat : Int)) :: ρ) w) : X.S (⟨some d, .load t x, ty, pos, aft, none⟩ :: rest) ρ w :=
 WL.load hA hx (by rw [Nat.mul_one]; exact h.cellAt' hj) hd kk
/-- A cell of a thing of a list. -/
theorem WL.loadE [Inhabited α] {A : Option Addr} {cap j o : Nat} {l : List α} {v : Value} (hA : ∀ w, (isAgg t).run P w = .ok false w) (hx : ev ρ x = some (.pointer (some (atA A (j * E.size + o))))) (h : RdL w E A cap l) (hj : j < l.length)
 (hv : (E.cells (el l j))[o]? = some v) (hd : Nat.blt d n = true) (kk : X.S rest ((d, v) :: ρ) w) : X.S (⟨some d, .load t x, ty, pos, aft, none⟩ :: rest) ρ w :=
 WL.load hA hx (h.cell hj hv) hd kk
theorem WL.loadE0 [Inhabited α] {A : Option Addr} {cap j : Nat} {l : List α} {v : Value} (hA : ∀ w, (isAgg t).run P w = .ok false w) (hx : ev ρ x = some (.pointer (some (atA A (j * E.size))))) (h : RdL w E A cap l) (hj : j < l.length)
 (hv : (E.cells (el l j))[0]? = some v) (hd : Nat.blt d n = true) (kk : X.S rest ((d, v) :: ρ) w) : X.S (⟨some d, .load t x, ty, pos, aft, none⟩ :: rest) ρ w :=
 WL.load hA hx (by have := h.cell hj hv; rwa [Nat.add_zero] at this) hd kk
/-- A whole variable. -/
theorem WL.loadW {g : Nat} {te : TypeId} {cs : List Value} {s : Nat} (hA : ∀ w, (isAgg t).run P w = .ok true w) (hs : ∀ w, (sizeOf t).run P w = .ok s w) (hx : ev ρ x = some (.pointer (some ⟨g, 0, none⟩))) (M : Mem w0 w L) (h : Has (Asr.row g te cs) L) (hl : cs.length = s) (hd : Nat.blt d n = true)
 (kk : X.S rest ((d, .agg cs.toArray) :: ρ) w) : X.S (⟨some d, .load t x, ty, pos, aft, none⟩ :: rest) ρ w := by
 subst hl
 exact WL.loadAgg hA hs hx (M.cellsH h) hd kk
/-- A whole thing of a list. -/
theorem WL.loadL [Inhabited α] {A : Option Addr} {cap j s : Nat} {l : List α} {cs : List Value} (hA : ∀ w, (isAgg t).run P w = .ok true w) (hs : ∀ w, (sizeOf t).run P w = .ok s w) (hx : ev ρ x = some (.pointer (some (atA A (j * s))))) (h : RdL w E A cap l) (hE : E.size = s) (hj : j < l.length)
 (hcs : E.cells (el l j) = cs) (hd : Nat.blt d n = true) (kk : X.S rest ((d, .agg cs.toArray) :: ρ) w) : X.S (⟨some d, .load t x, ty, pos, aft, none⟩ :: rest) ρ w := by
 subst hcs hE
 refine WL.loadAgg (cs := E.cells (el l j)) hA (by rw [E.len]; exact hs) hx (fun o v hv => ?_) hd kk
 rw [atA_add]
 exact h.cell hj hv
/-- A struct's value, part by part. -/
inductive Puts (pl : Array (Nat × Nat)) : List Nat → List Value → List Value → List Value → Prop
 | nil {cs : List Value} : Puts pl [] [] cs cs
 | cons {i : Nat} {is : List Nat} {v : Value} {vs cs cs1 cs2 : List Value} {o : Nat} (h : pl[i]? = some (o, 1)) (h1 : v.oneCell' = true) (hs : SetAt v cs o cs1) (r : Puts pl is vs cs1 cs2) : Puts pl (i :: is) (v :: vs) cs cs2
theorem Puts.fill {pl : Array (Nat × Nat)} {is : List Nat} {vs cs cs' : List Value} (h : Puts pl is vs cs cs') : Instr.fill (pl[·]?) cs.toArray (is.zip vs) = some cs'.toArray := by
 induction h with
 | nil => rfl
 | @cons i is v vs cs cs1 cs2 o h h1 hs _ ih =>
   have hv : v.cells = #[v] := by cases v <;> first | rfl | simp [Value.oneCell'] at h1
   have hlt := hs.lt
   rw [List.zip_cons_cons, Instr.fill]
   simp only [h, hv]
   rw [if_neg (by simp; omega)]
   have e : Array.foldl (fun (cs : Array Value) (x : Value × Nat) => cs.setIfInBounds (o + x.2) x.1) cs.toArray (#[v].zipIdx) = cs1.toArray := by
    simp [hs.eq]
   exact (congrArg (fun c => Instr.fill (pl[·]?) c (is.zip vs)) e).trans ih
theorem WL.buildP {parts : Array (Nat × Operand)} {fs : Array Field} {zs : List Value} {vs cells : List Value} {places : Array (Nat × Nat)} (ht : P.underlying t = some (.struct fs)) (hz : ∀ w, (zeroValue t).run P w = .ok (.agg zs.toArray) w)
 (hp : ∀ w, (fs.mapM (m := Sem) fun (f : Field) => Prod.mk f.offset <$> sizeOf f.type).run P w = .ok places w) (hx : evs ρ (parts.toList.map (·.2)) = some vs)
 (hf : Puts places (parts.toList.map (·.1)) vs zs cells) (hd : Nat.blt d n = true)
 (kk : X.S rest ((d, .agg cells.toArray) :: ρ) w) : X.S (⟨some d, .build t parts, ty, pos, aft, none⟩ :: rest) ρ w :=
 WL.build ht hz hp hx hf.fill hd kk
/-! ### stores -/
theorem WL.storeR {g o : Nat} {te : TypeId} {cs cs' : List Value} {v : Value} (hs : ∀ w, (sizeOf t).run P w = .ok 1 w) (hx : ev ρ x = some (.pointer (some ⟨g, o, none⟩))) (hy : ev ρ y = some v) (hv : v.oneCell' = true)
 (M : Mem w0 w L) (_ : Has (Asr.row g te cs) L) (hset : SetAt v cs o cs') (h : Upd (Asr.row g te cs) (Asr.row g te cs') L L') (kk : ∀ w', Mem w0 w' L' → Y.S rest ρ w') :
 Y.S (⟨none, .store t x y, ty, pos, aft, none⟩ :: rest) ρ w := by
 obtain ⟨K, h1, h2⟩ := h.perm
 refine WL.store (M.perm h1) hs hx hy hv hset.lt fun w' M' => kk w' ?_
 rw [hset.eq] at M'
 exact M'.perm h2.symm
/-- A store over a whole variable. -/
theorem WL.storeWR {g : Nat} {te : TypeId} {old new : List Value} {v : Value} {s : Nat} (hs : ∀ w, (sizeOf t).run P w = .ok s w) (hx : ev ρ x = some (.pointer (some ⟨g, 0, none⟩))) (hy : ev ρ y = some v) (hc : v.cells.toList = new)
 (hv : ∀ u ∈ new, u.oneCell' = true) (hold : old.length = s) (hsz : new.length = s) (M : Mem w0 w L) (h : Upd (Asr.row g te old) (Asr.row g te new) L L') (kk : ∀ w', Mem w0 w' L' → Y.S rest ρ w') :
 Y.S (⟨none, .store t x y, ty, pos, aft, none⟩ :: rest) ρ w := by
 subst hc
 obtain ⟨K, h1, h2⟩ := h.perm
 exact WL.storeW (M.perm h1) hs hx hy hv hold (by simpa using hsz) fun w' M' => kk w' (M'.perm h2.symm)
theorem oneNil : ∀ v ∈ ([] : List Value), v.oneCell' = true := fun _ h => by cases h
theorem oneCons {a : Value} {l : List Value} (h : a.oneCell' = true) (k : ∀ v ∈ l, v.oneCell' = true) : ∀ v ∈ a :: l, v.oneCell' = true := fun v hv => by
 rcases List.mem_cons.1 hv with rfl | hv
 ·exact h
 ·exact k v hv
theorem WL.storeWA {g : Nat} {te : TypeId} {old new : List Value} {s : Nat} (hs : ∀ w, (sizeOf t).run P w = .ok s w) (hx : ev ρ x = some (.pointer (some ⟨g, 0, none⟩))) (hy : ev ρ y = some (.agg new.toArray))
 (hv : ∀ u ∈ new, u.oneCell' = true) (hold : old.length = s) (hsz : new.length = s) (M : Mem w0 w L) (h : Upd (Asr.row g te old) (Asr.row g te new) L L') (kk : ∀ w', Mem w0 w' L' → Y.S rest ρ w') :
 Y.S (⟨none, .store t x y, ty, pos, aft, none⟩ :: rest) ρ w := WL.storeWR hs hx hy rfl hv hold hsz M h kk
theorem Mem.lstWrite {A : Option Addr} {cap : Nat} {l l' : List α} (M : Mem w0 w (Asr.lst E A cap l :: L)) (hl : l'.length = l.length) (hA : A.isSome = true) :
 ∃ g sp, A = some ⟨g, 0, none⟩ ∧ Mem w0 w (Asr.row g E.e (E.all l ++ sp) :: L) ∧ ∀ w', Mem w0 w' (Asr.row g E.e (E.all l' ++ sp) :: L) → Mem w0 w' (Asr.lst E A cap l' :: L) := by
 obtain ⟨g, sp, rfl, M1, hc, hm, hn, _⟩ := M.ownRow (by rintro rfl; cases hA)
 refine ⟨g, sp, rfl, M1, fun w' M' => M'.rowOwn sp rfl (E.all_length l') ?_ hm (by rw [hl]; exact hn)⟩
 rw [List.length_append, E.all_length, hl, ← E.all_length, ← List.length_append]
 exact hc
/-- A store of a cell of a thing of a list. -/
theorem WL.storeE [Inhabited α] {A : Option Addr} {cap j o : Nat} {l : List α} {x' : α} {v : Value} (hs : ∀ w, (sizeOf t).run P w = .ok 1 w) (hx : ev ρ x = some (.pointer (some (atA A (j * E.size + o))))) (hy : ev ρ y = some v) (hv : v.oneCell' = true)
 (M : Mem w0 w L) (_ : Has (Asr.lst E A cap l) L) (hj : j < l.length) (hset : SetAt v (E.cells (el l j)) o (E.cells x')) (h : Upd (Asr.lst E A cap l) (Asr.lst E A cap (l.set j x')) L L') (kk : ∀ w', Mem w0 w' L' → Y.S rest ρ w') :
 Y.S (⟨none, .store t x y, ty, pos, aft, none⟩ :: rest) ρ w := by
 obtain ⟨K, h1, h2⟩ := h.perm
 have M0 := M.perm h1
 have hlen := M0.head.1
 obtain ⟨g, sp, rfl, M1, back⟩ := M0.lstWrite (l' := l.set j x') (by simp) (ownRd M0.head |>.isSome (by omega))
 rw [atA_lit, Nat.zero_add] at hx
 have hlt := hset.lt
 rw [E.len] at hlt
 have hb : j * E.size + o < (E.all l).length := by
  rw [E.all_length]
  have : (j + 1) * E.size ≤ l.length * E.size := Nat.mul_le_mul_right _ hj
  rw [Nat.add_mul] at this
  omega
 refine WL.store M1 hs hx hy hv (by rw [List.length_append]; omega) fun w' M' => kk w' ?_
 rw [List.set_append, if_pos hb, E.all_setCell l j o x' v hj hlt hset.eq.symm] at M'
 exact (back w' M').perm h2.symm
theorem WL.storeE0 [Inhabited α] {A : Option Addr} {cap j : Nat} {l : List α} {x' : α} {v : Value} (hs : ∀ w, (sizeOf t).run P w = .ok 1 w) (hx : ev ρ x = some (.pointer (some (atA A (j * E.size))))) (hy : ev ρ y = some v) (hv : v.oneCell' = true)
 (M : Mem w0 w L) (hh : Has (Asr.lst E A cap l) L) (hj : j < l.length) (hset : SetAt v (E.cells (el l j)) 0 (E.cells x')) (h : Upd (Asr.lst E A cap l) (Asr.lst E A cap (l.set j x')) L L') (kk : ∀ w', Mem w0 w' L' → Y.S rest ρ w') :
 Y.S (⟨none, .store t x y, ty, pos, aft, none⟩ :: rest) ρ w := WL.storeE (o := 0) hs (by rw [Nat.add_zero]; exact hx) hy hv M hh hj hset h kk
/-- A store of a byte. -/
theorem WL.storeB {A : Option Addr} {cap j : Nat} {l : List UInt8} {v : Int} {te : TypeId} (hs : ∀ w, (sizeOf t).run P w = .ok 1 w) (hx : ev ρ x = some (.pointer (some (atA A (j * 1))))) (hy : ev ρ y = some (.int .u8 v)) (M : Mem w0 w L) (_ : Has (Asr.own te 1 A l.length cap (bs l)) L) (h0 : 0 ≤ v) (h1 : v < 256)
 (hj : j < l.length) (h : Upd (Asr.own te 1 A l.length cap (bs l)) (Asr.own te 1 A (l.set j (u8 v)).length cap (bs (l.set j (u8 v)))) L L') (kk : ∀ w', Mem w0 w' L' → Y.S rest ρ w') :
 Y.S (⟨none, .store t x y, ty, pos, aft, none⟩ :: rest) ρ w := by
 obtain ⟨K, h1', h2⟩ := h.perm
 have M0 := M.perm h1'
 obtain ⟨g, sp, rfl, M1, hc, hm, hn, hl⟩ := M0.ownRow (by rintro rfl; have := (ownRd M0.head).isSome (by omega); exact absurd this (by decide))
 rw [Nat.mul_one, atA_lit, Nat.zero_add] at hx
 refine WL.store M1 hs hx hy rfl (by rw [List.length_append, bs_length]; omega) fun w' M' => kk w' ?_
 rw [List.set_append, if_pos (by rw [bs_length]; exact hj), bv_u8 h0 h1, bs_set] at M'
 exact (M'.rowOwn sp rfl (by simp [bs]) (by simp [bs] at hc ⊢; omega) hm (by rw [List.length_set]; exact hn)).perm h2.symm
/-! ### new things -/
theorem foldl_sets (off : Nat) : ∀ (c : List Value) (k : Nat) (p z s : List Value), z.length = c.length → p.length = off + k →
 (c.zipIdx k).foldl (fun (cs : Array Value) (x : Value × Nat) => cs.setIfInBounds (off + x.2) x.1) (p ++ z ++ s).toArray = (p ++ c ++ s).toArray
 | [], _, p, z, s, hz, _ => by
   have : z = [] := List.eq_nil_of_length_eq_zero hz
   subst this
   rfl
 | u :: c, k, p, z, s, hz, hp => by
   cases z with
   | nil => simp at hz
   | cons z0 z =>
     rw [List.zipIdx_cons, List.foldl_cons]
     have e : (p ++ z0 :: z ++ s).toArray.setIfInBounds (off + k) u = ((p ++ [u]) ++ z ++ s).toArray := by
      rw [List.setIfInBounds_toArray, ← hp, List.append_assoc, List.set_append, if_neg (by omega)]
      simp
     have ih := foldl_sets off c (k + 1) (p ++ [u]) z s (by simpa using hz) (by simp; omega)
     simp only at e ⊢
     rw [e, ih]
     simp
theorem fill_list (s : Nat) : ∀ (vs pre zs : List Value) (k : Nat), (∀ v ∈ vs, v.cells.size = s) → zs.length = vs.length * s → pre.length = k * s →
 Instr.fill (fun i => some (i * s, s)) (pre ++ zs).toArray ((List.range' k vs.length).zip vs) = some (pre ++ vs.flatMap (·.cells.toList)).toArray
 | [], pre, zs, _, _, hz, _ => by
   have : zs = [] := List.eq_nil_of_length_eq_zero (by simpa using hz)
   subst this
   simp [Instr.fill]
 | v :: vs, pre, zs, k, hv, hz, hp => by
   have hv0 := hv v (List.mem_cons_self ..)
   have hz' : zs.length = s + vs.length * s := by rw [hz, List.length_cons, Nat.add_mul]; omega
   obtain ⟨z, zs', rfl, hzl⟩ : ∃ z zs', zs = z ++ zs' ∧ z.length = s := ⟨zs.take s, zs.drop s, (List.take_append_drop ..).symm, by rw [List.length_take]; omega⟩
   have hzs' : zs'.length = vs.length * s := by rw [List.length_append] at hz'; omega
   simp only [List.length_cons, List.range'_succ, List.zip_cons_cons, Instr.fill]
   rw [if_neg (by simp only [hv0, ne_eq, not_true_eq_false, decide_false, Bool.false_or, decide_eq_true_eq, List.size_toArray, List.length_append]; omega)]
   have e : Array.foldl (fun (cs : Array Value) (x : Value × Nat) => cs.setIfInBounds (k * s + x.2) x.1) (pre ++ (z ++ zs')).toArray v.cells.zipIdx = (pre ++ v.cells.toList ++ zs').toArray := by
    rw [← Array.foldl_toList, Array.toList_zipIdx, ← List.append_assoc]
    exact foldl_sets (k * s) v.cells.toList 0 pre z zs' (by rw [hzl]; simp [hv0]) (by rw [hp]; rfl)
   have ih := fill_list s vs (pre ++ v.cells.toList) zs' (k + 1) (fun u hu => hv u (List.mem_cons_of_mem _ hu)) hzs' (by rw [List.length_append, hp, Nat.add_mul]; simp [hv0])
   refine Eq.trans (congrArg (fun cs => Instr.fill (fun i => some (i * s, s)) cs ((List.range' (k + 1) vs.length).zip vs)) e) ?_
   rw [ih]
   simp
/-- A slice literal of things. -/
theorem WL.buildL {parts : Array (Nat × Operand)} {len : Nat} {vs : List Value} {l : List α} {bytes : Nat} (T : Elem P t E.e E.size bytes) (M : Mem w0 w L) (hxs : evs ρ (parts.toList.map (·.2)) = some vs)
 (hp : parts.toList = (List.range' 0 (parts.toList.map (·.2)).length).zip (parts.toList.map (·.2))) (hv : vs.map (·.cells.toList) = l.map E.cells) (hlen : len = l.length) (hl : Nat.ble (len * E.size) 100000 = true) (hd : Nat.blt d n = true)
 (kk : ∀ g w', Mem w0 w' (Asr.lst E (some ⟨g, 0, none⟩) len l :: L) → Y.S rest ((d, .slice (some ⟨g, 0, none⟩) len len) :: ρ) w') :
 Y.S (⟨some d, .buildSlice t len parts, ty, pos, aft, none⟩ :: rest) ρ w := by
 subst hlen
 obtain ⟨inf, z, hi, hz, hsz, hby, hzs⟩ := T.info
 have hl' : l.length * E.size ≤ 100000 := Nat.le_of_ble_eq_true hl
 have hpos := E.pos
 have hll : l.length ≤ l.length * E.size := Nat.le_mul_of_pos_right _ hpos
 have hvl : vs.length = l.length := by simpa using congrArg List.length hv
 have hall : vs.flatMap (·.cells.toList) = E.all l := by rw [List.flatMap_def, hv, Enc.all, List.flatMap_def]
 have hcs : ∀ v ∈ vs, v.cells.size = E.size := by
  intro v hv'
  have h1 : v.cells.toList ∈ vs.map (·.cells.toList) := List.mem_map_of_mem hv'
  rw [hv] at h1
  obtain ⟨a, _, ha⟩ := List.mem_map.1 h1
  rw [← Array.length_toList, ← ha, E.len]
 have M1 := M.alloc (.cells (E.all l).toArray E.e)
 have M2 : Mem w0 _ (Asr.lst E (some ⟨w.heap.size, 0, none⟩) l.length l :: L) :=
  Mem.rowOwn (g := w.heap.size) (cs := E.all l) (vs := E.all l) M1 [] (by simp) (E.all_length l) (by rw [List.append_nil, E.all_length]) (by simp only [maxLen]; omega) (Nat.le_refl _)
 refine WL.valW (v := .slice (some ⟨w.heap.size, 0, none⟩) l.length l.length) (w' := w.alloc (.cells (E.all l).toArray E.e)) rfl rfl hd (fun a ha => ?_) (kk _ _ M2)
 have hev := ha.evals hxs
 have hparts : parts.toList.map (fun (x : Nat × Operand) => (x.1, a.eval x.2)) = (List.range' 0 vs.length).zip vs := by
  rw [hp, ← hev]
  simp [List.zip_map_right]
 have hf := fill_list E.size vs [] (((Array.range (l.length * E.size)).map fun (i : Nat) => (if l.length * E.size = 0 then (#[] : Array Value) else z.cells)[i % (if l.length * E.size = 0 then (#[] : Array Value) else z.cells).size]!).toList) 0 hcs (by simp [hvl]) (by simp)
 simp only [List.nil_append, Array.toArray_toList] at hf
 rw [hall] at hf
 simp only [execOp, Instr.buildSlice, run_underlying T.und, Sem.run_bind, Result.andThen_ok, sizeOf, typeInfo, run_program, hi, Sem.run_pure, hsz, Sem.run_ite]
 rw [if_neg (by omega)]
 by_cases h0 : l.length * E.size = 0
 ·have hl0 : l = [] := List.eq_nil_of_length_eq_zero (by omega)
  subst hl0
  have hv0 : vs = [] := List.eq_nil_of_length_eq_zero hvl
  subst hv0
  have hp0 : parts = #[] := by simpa using hev
  subst hp0
  simp [Instr.fill, newRow, Enc.all, Array.range_zero']
 ·simp only [h0, if_false] at hf ⊢
  simp [zeroValue, typeInfo, hi, hz, hparts, hf, newRow]
/-- append of things. -/
theorem WL.appendL {A A' : Option Addr} {cap c m m0 : Nat} {l news : List α} {bytes : Nat} (T : Elem P t E.e E.size bytes) (hx : ev ρ x = some (.slice A m0 cap)) (hy : ev ρ y = some (.slice A' m c))
 (M : Mem w0 w L) (h : Del (Asr.lst E A cap l) L L') (R : RdL w E A' c news) (hm0 : m0 = l.length) (hm : m = news.length) (hb : (l.length + news.length) * bytes ≤ 140737488355328) (hn : l.length + news.length ≤ maxLen) (hd : Nat.blt d n = true)
 (kk : ∀ A2 cap2 w', Mem w0 w' (Asr.lst E A2 cap2 (l ++ news) :: L') → Y.S rest ((d, .slice A2 (l ++ news).length cap2) :: ρ) w') :
 Y.S (⟨some d, .call ⟨.builtin .append, #[x, y], #[t, t]⟩, ty, pos, aft, none⟩ :: rest) ρ w := by
 subst hm hm0
 refine WL.append T hx hy (M.del h) R (E.all_one _) hb hn hd fun A2 cap2 w' M' => ?_
 have := kk A2 cap2 w' (by
  unfold Asr.lst
  rw [E.all_append, List.length_append]
  exact M')
 rwa [List.length_append] at this
/-- append of bytes. -/
theorem WL.appendBH {A A' : Option Addr} {m cap m' c : Nat} {l news : List UInt8} (T : Elem P t e 1 1) (hx : ev ρ x = some (.slice A m cap)) (hy : ev ρ y = some (.slice A' m' c))
 (M : Mem w0 w L) (h : Del (Asr.own e 1 A l.length cap (bs l)) L L') (R : RdB w A' c news) (hl : m = l.length) (hn : m' = news.length) (hb : l.length + news.length ≤ 140737488355328) (hd : Nat.blt d n = true)
 (kk : ∀ A2 cap2 w', Mem w0 w' (Asr.own e 1 A2 (l ++ news).length cap2 (bs (l ++ news)) :: L') → Y.S rest ((d, .slice A2 (l ++ news).length cap2) :: ρ) w') :
 Y.S (⟨some d, .call ⟨.builtin .append, #[x, y], #[t, t]⟩, ty, pos, aft, none⟩ :: rest) ρ w := by
 subst hl
 exact WL.appendB T hx hy (M.del h) R rfl hn hb hd kk
/-- append to an empty literal. -/
theorem WL.appendBN {A A' : Option Addr} {m cap m' c : Nat} {news : List UInt8} (T : Elem P t e 1 1) (hx : ev ρ x = some (.slice A m cap)) (hy : ev ρ y = some (.slice A' m' c))
 (M : Mem w0 w L) (h : Del (Asr.own e 1 A ([] : List UInt8).length cap (bs [])) L L') (R : RdB w A' c news) (hl : m = ([] : List UInt8).length) (hn : m' = news.length) (hb : news.length ≤ 140737488355328) (hd : Nat.blt d n = true)
 (kk : ∀ A2 cap2 w', Mem w0 w' (Asr.own e 1 A2 news.length cap2 (bs news) :: L') → Y.S rest ((d, .slice A2 news.length cap2) :: ρ) w') :
 Y.S (⟨some d, .call ⟨.builtin .append, #[x, y], #[t, t]⟩, ty, pos, aft, none⟩ :: rest) ρ w :=
 WL.appendBH (l := []) T hx hy M h R hl hn (by simpa using hb) hd kk
theorem WL.appendLN {A A' : Option Addr} {cap c m m0 : Nat} {news : List α} {bytes : Nat} (T : Elem P t E.e E.size bytes) (hx : ev ρ x = some (.slice A m0 cap)) (hy : ev ρ y = some (.slice A' m c))
 (M : Mem w0 w L) (h : Del (Asr.lst E A cap ([] : List α)) L L') (R : RdL w E A' c news) (hm0 : m0 = 0) (hm : m = news.length) (hb : news.length * bytes ≤ 140737488355328) (hn : news.length ≤ maxLen) (hd : Nat.blt d n = true)
 (kk : ∀ A2 cap2 w', Mem w0 w' (Asr.lst E A2 cap2 news :: L') → Y.S rest ((d, .slice A2 news.length cap2) :: ρ) w') :
 Y.S (⟨some d, .call ⟨.builtin .append, #[x, y], #[t, t]⟩, ty, pos, aft, none⟩ :: rest) ρ w :=
 WL.appendL (l := []) T hx hy M h R (by simpa using hm0) hm (by simpa using hb) (by simpa using hn) hd kk
/-- Numbers, as bytes. -/
inductive BytesOf : List Int → List UInt8 → Prop
 | nil : BytesOf [] []
 | nat {b : UInt8} {es : List Int} {l : List UInt8} : BytesOf es l → BytesOf ((b.toNat : Int) :: es) (b :: l)
 | lit {b : UInt8} {e : Int} {es : List Int} {l : List UInt8} (h : e = (b.toNat : Int)) : BytesOf es l → BytesOf (e :: es) (b :: l)
 | any {e : Int} {es : List Int} {l : List UInt8} (h : 0 ≤ e ∧ e < 256) : BytesOf es l → BytesOf (e :: es) (u8 e :: l)
theorem BytesOf.bs {es : List Int} {l : List UInt8} (h : BytesOf es l) : es.map (Value.int .u8) = bs l := by
 induction h with
 | nil => rfl
 | nat _ ih => rw [List.map_cons, ih]; rfl
 | lit h _ ih => rw [List.map_cons, ih, h]; rfl
 | any h _ ih => rw [List.map_cons, ih, bv_u8 h.1 h.2]; rfl
/-- A slice literal of bytes. -/
theorem WL.buildB {parts : Array (Nat × Operand)} {len : Nat} {es : List Int} {l : List UInt8} (T : Elem P t e 1 1) (M : Mem w0 w L) (hxs : evs ρ (parts.toList.map (·.2)) = some (es.map (Value.int .u8)))
 (hp : parts.toList = (List.range' 0 (parts.toList.map (·.2)).length).zip (parts.toList.map (·.2))) (h1 : BytesOf es l) (hlen : len = l.length) (hl : Nat.ble len 1000 = true) (hd : Nat.blt d n = true)
 (kk : ∀ g w', Mem w0 w' (Asr.own e 1 (some ⟨g, 0, none⟩) l.length len (bs l) :: L) → Y.S rest ((d, .slice (some ⟨g, 0, none⟩) l.length len) :: ρ) w') :
 Y.S (⟨some d, .buildSlice t len parts, ty, pos, aft, none⟩ :: rest) ρ w := by
 rw [h1.bs] at hxs
 refine WL.buildS T M hxs hp (by simp [bs, hlen]) (bs_oneCell _) hl hd fun g w' M' => ?_
 have := kk g w'
 rw [← hlen] at this
 exact this M'
end
/-! ### what is known of a test -/
theorem St.know {n : Nat} {ρ : List (Nat × Value)} {a : Act} (h : St n ρ a) {t : Nat} {v : Value} (hv : envGet ρ t = some v) : St n ((t, v) :: ρ) a :=
 ⟨h.defers, h.size, fun t' u hu => by
  rw [envGet_cons] at hu
  by_cases e : t = t'
  ·subst e
   simp only [if_true, Option.some.injEq] at hu
   subst hu
   exact h.get _ _ hv
  ·rw [if_neg e] at hu
   exact h.get _ _ hu⟩
section
variable {P : Program} {Q : Exit → Act → World → Prop} {S : World → Prop} {G : Nat → Bool} {n : Nat} {ρ : List (Nat × Value)} {w : World} {f : Nat} {done : List Nat} {l : List Oper} {t : Nat}
/-- The beginning of a region that draws its order: K stands all the while. -/
theorem W.drawM {id : Nat} {w0 : World} {L : List Asr} (K : List Asr) (hm : P.follows .mixedOrders = true) (G : Nat → Bool) (M : Mem w0 w L) (_ : Sel L K)
 (h : Mem w0 w.drew L → DG P l.toArray Q (fun w => Mem w0 w K) G l.length [] n ρ w.drew) : W P (.region id l.toArray true) Q n ρ w := W.draw hm _ G (h M.drew)
theorem DG.know {b : Bool} (hx : envGet ρ t = some (.bool b)) (kt : b = true → DG P l.toArray Q S G f done n ((t, .bool true) :: ρ) w) (kf : b = false → DG P l.toArray Q S G f done n ((t, .bool false) :: ρ) w) : DG P l.toArray Q S G f done n ρ w := by
 intro a ha
 cases b
 ·exact kf rfl a (ha.know hx)
 ·exact kt rfl a (ha.know hx)
theorem DG.knowP {p : Prop} [Decidable p] (hx : envGet ρ t = some (.bool (decide p))) (kt : p → DG P l.toArray Q S G f done n ((t, .bool true) :: ρ) w) (kf : ¬ p → DG P l.toArray Q S G f done n ((t, .bool false) :: ρ) w) : DG P l.toArray Q S G f done n ρ w :=
 DG.know hx (fun h => kt (of_decide_eq_true h)) (fun h => kf (of_decide_eq_false h))
end
/-! ### slices of slices: values alone -/
section
variable {P : Program} {n : Nat} {ρ : List (Nat × Value)} {w : World} {rest : List Oper} {X : SqV P n}
variable {d : Nat} {ty : TypeId} {pos : String} {aft : Array Edge} {x : Operand} {t e : TypeId}
theorem WL.cutLH {A : Option Addr} {c m size m' an bn : Nat} {lo hi : Operand} {kl kh : IntKind} {a b : Int} (ht : P.underlying t = some (.slice e)) (hs : ∀ w, (sizeOf e).run P w = .ok size w) (hx : ev ρ x = some (.slice A m c))
 (hl : ev ρ lo = some (.int kl a)) (hh : ev ρ hi = some (.int kh b)) (h0 : 0 ≤ a) (h1 : a ≤ b) (h2 : b ≤ c) (ha : a = (an : Int)) (hb : b = (bn : Int)) (hm : bn - an = m') (hd : Nat.blt d n = true)
 (kk : X.S rest ((d, .slice (cutA A an size c) m' (c - an)) :: ρ) w) :
 X.S (⟨some d, .slice t x (some lo) (some hi) none, ty, pos, aft, none⟩ :: rest) ρ w := by
 subst ha hb
 exact WL.sliceLHX ht hs hx hl hh h0 h1 h2 rfl hm rfl hd kk
theorem WL.cutL {A : Option Addr} {c m size m' an : Nat} {lo : Operand} {kl : IntKind} {a : Int} (ht : P.underlying t = some (.slice e)) (hs : ∀ w, (sizeOf e).run P w = .ok size w) (hx : ev ρ x = some (.slice A m c))
 (hl : ev ρ lo = some (.int kl a)) (h0 : 0 ≤ a) (h2 : a ≤ m) (ha : a = (an : Int)) (hm : m - an = m') (hd : Nat.blt d n = true)
 (kk : X.S rest ((d, .slice (cutA A an size c) m' (c - an)) :: ρ) w) :
 X.S (⟨some d, .slice t x (some lo) none none, ty, pos, aft, none⟩ :: rest) ρ w := by
 subst ha hm
 have h2' : an ≤ m := by omega
 refine WL.val rfl rfl hd (fun f hf => ?_) kk
 simp [execOp, hf.eval hx, hf.eval hl, Instr.sliceAt, Instr.slice, run_underlying ht, Instr.sliceBounds, run_sliceBound, hs, h2', cutA]
theorem WL.cutH {A : Option Addr} {c m m' size : Nat} {hi : Operand} {kh : IntKind} {b : Int} (ht : P.underlying t = some (.slice e)) (hs : ∀ w, (sizeOf e).run P w = .ok size w) (hx : ev ρ x = some (.slice A m c))
 (hh : ev ρ hi = some (.int kh b)) (h1 : 0 ≤ b) (h2 : b ≤ c) (hm : b.toNat = m') (hd : Nat.blt d n = true)
 (kk : X.S rest ((d, .slice A m' c) :: ρ) w) :
 X.S (⟨some d, .slice t x none (some hi) none, ty, pos, aft, none⟩ :: rest) ρ w := by
 subst hm
 exact WL.sliceUpTo ht hs hx hh h1 h2 hd kk
end
end Go.Proofs.YtlminileigfkcaaGreat
namespace Go.Proofs.YtlminileigfkcaaGreat
open Go Go.RowKit
instance : Inhabited OX := ⟨⟨none, 0, []⟩⟩
/-- Lists of bytes in a list. -/
def oxE : Enc OX := ⟨84, 1, fun x => [x.v], fun _ => rfl, (fun a v hv => by
 rw [List.mem_singleton] at hv
 subst hv
 rfl), by decide⟩
/-- Numbers in a list. -/
def intE : Enc Int := ⟨3, 1, fun z => [.int .i64 z], fun _ => rfl, (fun a v hv => by
 rw [List.mem_singleton] at hv
 subst hv
 rfl), by decide⟩
end Go.Proofs.YtlminileigfkcaaGreat
namespace Go.Proofs.YtlminileigfkcaaGreat
open Go Go.RowKit
section
variable {P : Program} {n : Nat} {ρ : List (Nat × Value)} {w0 w : World} {rest : List Oper} {L : List Asr} {Y : Sq P n} {X : SqV P n}
variable {d : Nat} {ty : TypeId} {pos : String} {aft : Array Edge} {x y : Operand} {t t' e : TypeId}
theorem WL.valN {o : Oper} {v : Value} {w' : World} (hg : o.guard = none) (hdst : o.dst = none)
 (hrun : ∀ a, St n ρ a → (execOp a.eval o).run P w = .ok (.value v) w') (k : Y.S rest ρ w') : Y.S (o :: rest) ρ w :=
 Y.step_ hg fun K hK a ha => by
  unfold Oper.wp
  rw [hrun a ha, Oper.upon_value, hdst]
  exact hK _ _ _ ha k
/-- A call of a function value. -/
theorem WL.callV {f : FuncId} {xs : List Operand} {ts : Array TypeId} {vs : List Value} {cs : Array Value} {R : Value → World → Prop} (hcall : ∀ (args : Array Value) (w : World), (callFunc f args).run P w = .ok (.enter f args) w)
 (hx : ev ρ x = some (.func (.func f) #[] cs)) (hxs : evs ρ xs = some vs) (hc : Fn P f (vs ++ cs.toList) w R) (hd : Nat.blt d n = true) (k : ∀ v w', R v w' → Y.S rest ((d, v) :: ρ) w') :
 Y.S (⟨some d, .call ⟨.value x, xs.toArray, ts⟩, ty, pos, aft, none⟩ :: rest) ρ w :=
 Y.step_ rfl fun K hK a ha => by
  have e := ha.evals hxs
  have e2 := ha.eval hx
  have hap : vs.toArray ++ cs = (vs ++ cs.toList).toArray := by apply Array.ext'; simp
  unfold Oper.wp
  simp only [execOp, resolve, e2, Deferred.ofValue, Sem.run_bind, Sem.run_pure, Result.andThen_ok, invoke, List.map_toArray, e, Array.empty_append, hap, hcall, Oper.upon_enter]
  exact Calls.mono hc fun _ w' ⟨v, he, r⟩ => by subst he; exact hK _ _ _ (ha.put hd v) (k v w' r)
theorem WL.eqlSN {A : Option Addr} {m c n' c' : Nat} (ht : P.underlying t = some (.slice e)) (hx : ev ρ x = some (.slice A m c)) (hy : ev ρ y = some (.slice none n' c')) (hd : Nat.blt d n = true)
 (kk : X.S rest ((d, .bool A.isNone) :: ρ) w) : X.S (⟨some d, .binOp .eql t x y t', ty, pos, aft, none⟩ :: rest) ρ w :=
 WL.bin hx hy rfl (Go.Lib.run_eql_slice_nil w t e A m c n' c' ht) hd kk
end
section
variable {P : Program} {w0 w : World} {L : List Asr} {t e : TypeId} {size n cap m c : Nat} {A' : Option Addr} {vs news : List Value} {g : Nat}
/-- clear of what lies behind an owned slice. -/
theorem run_clear_tail {bytes : Nat} (E : Elem P t e size bytes) (hone : ∀ z, (∀ w : World, (zeroValue e).run P w = .ok z w) → ∀ v ∈ z.cells.toList, v.oneCell' = true) (ty : TypeId)
 (M : Mem w0 w (Asr.own e size (some ⟨g, 0, none⟩) n cap vs :: L)) (h : n + m ≤ cap) :
 ∃ w', (Builtin.clear_ #[t] ty #[.slice (some ⟨g, n * size, none⟩) m c]).run P w = .ok (.tuple #[]) w' ∧ Mem w0 w' (Asr.own e size (some ⟨g, 0, none⟩) n cap vs :: L) := by
 obtain ⟨i, z, hi, hz, rfl, rfl, hzs⟩ := E.info
 have hsz := E.pos
 have hzv : ∀ w : World, (zeroValue e).run P w = .ok z w := fun w => by simp [zeroValue, typeInfo, hi, hz]
 have hz1 := hone z hzv
 match m, h with
 | 0, _ => exact ⟨w, by simp [Builtin.clear_, run_underlying E.und], M⟩
 | m + 1, h =>
   obtain ⟨g', sp, hA, M1, hcl, hcm, hnc, hl⟩ := M.ownRow (by simp)
   obtain rfl : g = g' := by simpa using hA
   have hg : w.heap[g]? = some (.cells (vs ++ sp).toArray e (0, 0)) := M1.head
   have hzl : (Builtin.zeroCells z.cells (m + 1)).toList.length = (m + 1) * i.size := by rw [madeZero_length, hzs]
   have hle : n * i.size + (m + 1) * i.size ≤ cap * i.size := by rw [← Nat.add_mul]; exact Nat.mul_le_mul_right _ h
   have hz2 : ∀ v ∈ (Builtin.zeroCells z.cells (m + 1)).toList, v.oneCell' = true := by
    intro v hv
    simp only [Builtin.zeroCells, Array.toList_map, List.mem_map] at hv
    obtain ⟨k, _, rfl⟩ := hv
    refine hz1 _ ?_
    have hlt : k % z.cells.size < z.cells.size := Nat.mod_lt _ (by omega)
    rw [getElem!_pos z.cells _ hlt]
    exact Array.getElem_mem_toList hlt
   have hst := run_storeCells_at (P := P) g (n * i.size) e (Builtin.zeroCells z.cells (m + 1)).toList 0 (vs ++ sp).toArray w hg (by rw [hzl, List.size_toArray, hcl]; omega) hz2
   refine ⟨w.setRow g (((vs ++ sp).toArray.toList.take (n * i.size + 0)) ++ (Builtin.zeroCells z.cells (m + 1)).toList ++ (vs ++ sp).toArray.toList.drop (n * i.size + 0 + (Builtin.zeroCells z.cells (m + 1)).toList.length)).toArray, ?_, ?_⟩
   ·simp [Builtin.clear_, run_underlying E.und, hzv, hst]
   ·rw [Nat.add_zero, hzl]
    have e1 : (vs ++ sp).toArray.toList.take (n * i.size) ++ (Builtin.zeroCells z.cells (m + 1)).toList ++ (vs ++ sp).toArray.toList.drop (n * i.size + (m + 1) * i.size) = vs ++ ((Builtin.zeroCells z.cells (m + 1)).toList ++ sp.drop ((m + 1) * i.size)) := by
     rw [← hl]
     simp [List.drop_append]
    rw [e1]
    have M2 : Mem w0 (w.setRow g (vs ++ ((Builtin.zeroCells z.cells (m + 1)).toList ++ sp.drop ((m + 1) * i.size))).toArray) (Asr.row g e (vs ++ ((Builtin.zeroCells z.cells (m + 1)).toList ++ sp.drop ((m + 1) * i.size))) :: L) :=
     M1.write ⟨rfl, rfl, rfl, by simp, fun k _ hk => setRow_other w g k _ (fun e => hk e)⟩ (setRow_heap w g (vs ++ sp).toArray _ e _ hg) (fun _ hf => .inl hf)
    refine M2.rowOwn _ rfl hl ?_ hcm hnc
    rw [List.length_append, List.length_append, hzl, List.length_drop, ← hcl, List.length_append]
    rw [List.length_append, hl] at hcl
    omega
end
section
variable {P : Program} {n : Nat} {ρ : List (Nat × Value)} {w0 w : World} {rest : List Oper} {L L' : List Asr} {Y : Sq P n}
variable {d : Nat} {ty : TypeId} {pos : String} {aft : Array Edge} {x y : Operand} {t : TypeId} {α : Type} {E : Enc α}
/-- make of things. -/
theorem WL.makeL [Inhabited α] {z0 : α} {bytes : Nat} {zv : Value} {kl kc : IntKind} {j : Int} (T : Elem P t E.e E.size bytes) (hz : ∀ w, (zeroValue E.e).run P w = .ok zv w) (hz0 : zv.cells.toList = E.cells z0) (M : Mem w0 w L) (hx : ev ρ x = some (.int kl j)) (hy : ev ρ y = some (.int kc j)) (h0 : 0 ≤ j) (hb : bytes * j.toNat ≤ 281474976710656) (hm : j.toNat ≤ maxLen)
 (hd : Nat.blt d n = true)
 (kk : ∀ g w', Mem w0 w' (Asr.lst E (some ⟨g, 0, none⟩) j.toNat (List.replicate j.toNat z0) :: L) → Y.S rest ((d, .slice (some ⟨g, 0, none⟩) j.toNat j.toNat) :: ρ) w') :
 Y.S (⟨some d, .makeSlice t x y, ty, pos, aft, none⟩ :: rest) ρ w := by
 obtain ⟨m, rfl⟩ := Int.eq_ofNat_of_zero_le h0
 simp only [Int.toNat_natCast] at *
 have hpos := T.pos
 obtain ⟨inf, z, hi, hzz, hsz, hby, hzs⟩ := T.info
 have hzv : z = zv := by
  have := hz w
  simp [zeroValue, typeInfo, hi, hzz] at this
  exact this
 subst hzv
 have hm63 : (m : Int) ≤ 9223372036854775807 := by simp only [maxLen] at hm; omega
 have hr := run_make (P := P) w t E.e inf z T.und hi hzz kl kc m m (by omega) (Int.le_refl _) (by
  have h : ((bytes * m : Nat) : Int) ≤ 281474976710656 := by omega
  rw [hby]
  rwa [Int.natCast_mul] at h) hm63
 have M1 := M.alloc (.cells (madeCells z.cells (m * inf.size)) E.e)
 have e1 : madeCells z.cells (m * inf.size) = (E.all (List.replicate m z0)).toArray := by
  apply Array.ext'
  apply List.ext_getElem?
  intro i
  show (madeCells z.cells (m * inf.size)).toList[i]? = (E.all (List.replicate m z0))[i]?
  unfold madeCells
  rw [hsz, Array.toList_map, List.getElem?_map, Array.toList_range]
  rcases Nat.lt_or_ge i (m * E.size) with h | h
  ·have hq : i / E.size < m := Nat.div_lt_of_lt_mul (by rw [Nat.mul_comm]; exact h)
   have hr : i % E.size < E.size := Nat.mod_lt _ hpos
   have hi : i = i / E.size * E.size + i % E.size := by rw [Nat.mul_comm]; exact (Nat.div_add_mod i E.size).symm
   have hg := E.all_get (List.replicate m z0) (i / E.size) (i % E.size) (by simpa using hq) hr
   rw [← hi] at hg
   rw [hg]
   have hel : el (List.replicate m z0) (i / E.size) = z0 := by simp [el, hq]
   rw [hel, ← hz0, List.getElem?_range h, Option.map_some]
   have hlt : i % z.cells.size < z.cells.size := Nat.mod_lt _ (by omega)
   rw [getElem!_pos z.cells _ hlt, Array.getElem?_toList, ← hzs, Array.getElem?_eq_getElem hlt]
  ·rw [List.getElem?_eq_none (by simpa using h), List.getElem?_eq_none (by rw [E.all_length]; simpa using h)]
   rfl
 rw [e1] at M1
 have M2 : Mem w0 (w.alloc (.cells (E.all (List.replicate m z0)).toArray E.e)) (Asr.row w.heap.size E.e (E.all (List.replicate m z0)) :: L) := M1
 have hal : (E.all (List.replicate m z0)).length = m * E.size := by rw [E.all_length]; simp
 have M3 : Mem w0 (w.alloc (.cells (E.all (List.replicate m z0)).toArray E.e)) (Asr.lst E (some ⟨w.heap.size, 0, none⟩) m (List.replicate m z0) :: L) := by
  unfold Asr.lst
  rw [List.length_replicate]
  exact M2.rowOwn [] (by simp) hal (by simpa using hal) hm (Nat.le_refl _)
 refine WL.valW rfl rfl hd (fun a ha => ?_) (kk w.heap.size _ M3)
 simp only [Int.toNat_natCast] at hr
 rw [e1] at hr
 simp [execOp, ha.eval hx, ha.eval hy, hr]
end
end Go.Proofs.YtlminileigfkcaaGreat
