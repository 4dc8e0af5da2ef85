/-
  Regions that draw their order: operations that only yield a value are taken first, in the order of the text; the others one behind the other.
  Generic in the program.
-/
import Derived.Test.YtkdkdaljgoibaaaOwn
import Derived.OrdersHeld
namespace Go.Proofs.Ytkdkdaljgoibaaa
open Go Go.RowKit

def noPan (Q : Exit → Act → World → Prop) : Exit → Act → World → Prop
  | .panic _, _, _ => False
  | e, a, w => Q e a w

/-- Whatever order is picked; behind the operations marked by G, S holds. -/
def anyG (P : Program) (ops : Array Oper) (Q : Exit → Act → World → Prop) (S : World → Prop) (G : Nat → Bool) : Nat → Array Bool → Act → World → Prop
  | 0, listed, a, w => Region.ready .any ops listed = [] ∧ Q .normal a w
  | f + 1, listed, a, w => (Region.ready .any ops listed = [] → Q .normal a w) ∧
    ∀ i ∈ Region.ready .any ops listed, wpOp P ops Q i (fun a' w' => (G i = true → S w') ∧ anyG P ops Q S G f (listed.setIfInBounds i true) a' w') a w

section
variable {P : Program} {ops : Array Oper} {Q : Exit → Act → World → Prop} {S T : World → Prop} {G : Nat → Bool}

theorem any_of_G : ∀ (f : Nat) (listed : Array Bool) (a : Act) (w : World), anyG P ops Q S G f listed a w → wpAny P .any ops Q f listed a w
  | 0, _, _, _, h => h
  | f + 1, _, _, _, h => ⟨h.1, fun i hi => wpOp_mono (fun a' w' h' => any_of_G f _ a' w' h'.2) (h.2 i hi)⟩

theorem anyG_first {i : Nat} {oi : Oper} {v : Value} {R : Nat → Bool} {L0 : Array Bool} (hi : ops[i]? = some oi) (hsel : ∀ (j : Nat) (o : Oper) cs b, ops[j]? = some o → o.op ≠ .select cs b)
    (hQ : ∀ c a w, ¬ Q (.panic c) a w) (hG : G i = true → ∀ w, T w → S w)
    (hcl : ∀ (j : Nat) (oj : Oper), ops[j]? = some oj → j ≠ i → (∀ e ∈ oj.after, Region.binds .any e = true → L0.getD e.on false = true ∨ R e.on = true) → R j = true)
    (hfree : ∀ (j : Nat) (oj : Oper), ops[j]? = some oj → j ≠ i → L0.getD j true = false → R j = true → oi.apart ops oj = true ∧ ∀ w', (G j = true → S w') → T w') :
    ∀ (f : Nat) (listed : Array Bool) (a : Act) (w : World),
      (∀ k, listed.getD k false = true → L0.getD k false = true ∨ R k = true) → (∀ k, L0.getD k true = true → listed.getD k true = true) →
      i ∈ Region.ready .any ops listed → YieldsIf P ops T oi v a → T w →
      anyG P ops Q S G f (listed.setIfInBounds i true) (a.put oi.dst v) w → anyG P ops Q S G (f + 1) listed a w := by
  intro f
  induction f with
  | zero =>
    intro listed a w _ _ hr hy hT H
    refine ⟨fun h => (by rw [h] at hr; cases hr), fun j hj => ?_⟩
    by_cases hji : j = i
    · subst hji; exact hy.wpOp hi hT ⟨fun h => hG h w hT, H⟩
    · have := ready_mono hj hji
      rw [H.1] at this
      cases this
  | succ f ih =>
    intro listed a w hsub hmono hr hy hT H
    refine ⟨fun h => (by rw [h] at hr; cases hr), fun j hj => ?_⟩
    by_cases hji : j = i
    · subst hji; exact hy.wpOp hi hT ⟨fun h => hG h w hT, H⟩
    · have h1 := H.2 j (ready_mono hj hji)
      obtain ⟨hjun, oj, hoj, hall⟩ := mem_ready.1 hj
      have hRj : R j = true := hcl j oj hoj hji fun e he hb => hsub e.on (hall e he hb)
      have hL0 : L0.getD j true = false := by
        cases h0 : L0.getD j true with
        | false => rfl
        | true => rw [hmono j h0] at hjun; cases hjun
      obtain ⟨hap, hT'⟩ := hfree j oj hoj hji hL0 hRj
      have h2 := wpOp_putIf hoj hap (fun cs b => hsel i oi cs b hi) (fun cs b => hsel j oj cs b hoj) (fun c a w hq => (hQ _ _ _ hq).elim) hy h1
      have hsub' : ∀ k, (listed.setIfInBounds j true).getD k false = true → L0.getD k false = true ∨ R k = true := fun k hk => by
        by_cases hjk : j = k
        · subst hjk; exact .inr hRj
        · rw [getD_set_ne false hjk] at hk; exact hsub k hk
      have hmono' : ∀ k, L0.getD k true = true → (listed.setIfInBounds j true).getD k true = true := fun k hk => by
        by_cases hjk : j = k
        · subst hjk; rw [hL0] at hk; cases hk
        · rw [getD_set_ne true hjk]; exact hmono k hk
      refine wpOp_mono (fun a' w' h3 => ⟨h3.2.1, ih (listed.setIfInBounds j true) a' w' hsub' hmono' (ready_mono hr (Ne.symm hji)) h3.1 (hT' w' h3.2.1) ?_⟩) h2
      rw [Array.setIfInBounds_comm _ _ hji]
      exact h3.2.2

/-- The operations of the list have come up. -/
def marked_ (n : Nat) (done : List Nat) : Array Bool := done.foldl (fun l i => l.setIfInBounds i true) (Array.replicate n false)

/-- Is all that operation j waits for listed, or in R? -/
def readyM (ops : Array Oper) (listed : Array Bool) (R : Nat) (j : Nat) : Bool :=
  match ops[j]? with
  | some oj => oj.after.all fun e => !Region.binds .any e || listed.getD e.on false || R.testBit e.on
  | none => false
/-- What may come up while i has not. -/
def reachM (ops : Array Oper) (listed : Array Bool) (i : Nat) : Nat :=
  (List.range ops.size).foldl (fun R j => if j != i && readyM ops listed R j then R ||| 2 ^ j else R) 0

/-- May operation i be taken ahead of all others? pure: whatever the others do. -/
def freeR (ops : Array Oper) (G : Nat → Bool) (pure : Bool) (listed : Array Bool) (i R : Nat) : Bool :=
  match ops[i]? with
  | none => false
  | some oi => (List.range ops.size).all fun j => j == i || ((!readyM ops listed R j || R.testBit j) && (listed.getD j true || !R.testBit j || match ops[j]? with
      | some oj => oi.apart ops oj && (pure || G j)
      | none => true))
def freeG (ops : Array Oper) (G : Nat → Bool) (pure : Bool) (listed : Array Bool) (i : Nat) : Bool := freeR ops G pure listed i (reachM ops listed i)

theorem freeR_spec {pure : Bool} {i R : Nat} {oi : Oper} {listed : Array Bool} (hi : ops[i]? = some oi) (h : freeR ops G pure listed i R = true) :
    (∀ (j : Nat) (oj : Oper), ops[j]? = some oj → j ≠ i → (∀ e ∈ oj.after, Region.binds .any e = true → listed.getD e.on false = true ∨ R.testBit e.on = true) → R.testBit j = true) ∧
    (∀ (j : Nat) (oj : Oper), ops[j]? = some oj → j ≠ i → listed.getD j true = false → R.testBit j = true → oi.apart ops oj = true ∧ (pure = true ∨ G j = true)) := by
  simp only [freeR, hi, List.all_eq_true, List.mem_range] at h
  refine ⟨fun j oj hj hne hd => ?_, fun j oj hj hne hun hR => ?_⟩
  · have h1 := h j (Array.getElem?_eq_some_iff.1 hj).1
    simp only [Bool.or_eq_true, beq_iff_eq, hne, false_or, Bool.and_eq_true] at h1
    rcases h1.1 with h2 | h2
    · have hr : readyM ops listed R j = true := by
        simp only [readyM, hj, Array.all_eq_true_iff_forall_mem, Bool.or_eq_true]
        intro e he
        cases hb : Region.binds .any e with
        | false => exact .inl (.inl rfl)
        | true =>
          rcases hd e he hb with h3 | h3
          · exact .inl (.inr h3)
          · exact .inr h3
      rw [hr] at h2
      cases h2
    · exact h2
  · have h1 := h j (Array.getElem?_eq_some_iff.1 hj).1
    simp only [Bool.or_eq_true, beq_iff_eq, hne, false_or, Bool.and_eq_true, hun, Bool.false_eq_true, hR, Bool.not_true, hj] at h1
    exact h1.2

/-- May the operations of the list be taken, one behind the other? -/
def takeOk (ops : Array Oper) (G : Nat → Bool) (pure : Bool) : List Nat → List Nat → Bool
  | _, [] => true
  | done, i :: r => Nat.blt i ops.size && !(pure && G i) && freeG ops G pure (marked_ ops.size done) i && (Region.ready .any ops (marked_ ops.size done)).contains i && takeOk ops G pure (done ++ [i]) r

def pickOps (l : List Oper) : List Nat → List Oper
  | [] => []
  | i :: r => (l[i]?).getD default :: pickOps l r

/-- One behind the other, without a turn of the world, to just the frame ρF. -/
def Chain (P : Program) (n : Nat) (ops : Array Oper) (ρF : List (Nat × Value)) : List Oper → List (Nat × Value) → World → Prop
  | [], ρ, _ => ρ = ρF
  | o :: rest, ρ, w => ∃ d v, o.dst = some d ∧ Nat.blt d n = true ∧
      ((∀ a, St n ρ a → Region.wanted o (yielded ops a.tmps) = true ∧ (execOp a.eval o).run P w = .ok (.value v) w) ∨ ((∀ a, St n ρ a → Region.wanted o (yielded ops a.tmps) = false) ∧ v = undef)) ∧
      Chain P n ops ρF rest ((d, v) :: ρ) w

theorem Chain.pre {n : Nat} {ρF : List (Nat × Value)} {w : World} : ∀ {l : List Oper} {ρ : List (Nat × Value)}, Chain P n ops ρF l ρ w → ∃ pre, ρF = pre ++ ρ ∧ pre.length = l.length
  | [], ρ, h => ⟨[], h.symm, rfl⟩
  | o :: rest, ρ, ⟨d, v, _, _, _, h⟩ => by
    obtain ⟨pre, h1, h2⟩ := Chain.pre h
    exact ⟨pre ++ [(d, v)], by rw [h1]; simp, by simp [h2]⟩

def chain (P : Program) (n : Nat) (ops : Array Oper) (ρF : List (Nat × Value)) : SqV P n where
  ops := ops
  S := fun l ρ w => Chain P n ops ρF l ρ w
  val_ := fun hg hdst hd hrun k => ⟨_, _, hdst, hd, .inl (fun a ha => ⟨by simp [Region.wanted, hg], hrun a ha⟩), k⟩
  on_ := fun {d op ty pos aft j b rest ρ w t} hj ht h => by
    obtain ⟨d', v, h1, h2, h3, h4⟩ := h
    refine ⟨d', v, h1, h2, .inl fun a ha => ⟨by simp [Region.wanted, yielded_of ha hj ht], ?_⟩, h4⟩
    rcases h3 with h3 | ⟨h3, _⟩
    · exact (h3 a ha).2
    · have := h3 a ha
      simp [Region.wanted] at this
  off_ := fun hw hdst hd k => ⟨_, _, hdst, hd, .inr ⟨hw, rfl⟩, k⟩

theorem marked_snoc_ (m : Nat) (done : List Nat) (i : Nat) : marked_ m (done ++ [i]) = (marked_ m done).setIfInBounds i true := by simp [marked_]

theorem batch_ {n : Nat} {ρF : List (Nat × Value)} {pure : Bool} (hQ : ∀ c a w, ¬ Q (.panic c) a w) (hsel : Region.noSelect ops = true) {w : World} (hT : T w)
    (hTS : (pure = true ∧ ∀ w', T w') ∨ (pure = false ∧ ∀ w', S w' ↔ T w')) :
    ∀ (ids done : List Nat) (ρ : List (Nat × Value)) (f : Nat), takeOk ops G pure done ids = true → (∀ w', T w' → Chain P n ops ρF (pickOps ops.toList ids) ρ w') →
      (∀ a, St n ρF a → anyG P ops Q S G f (marked_ ops.size (done ++ ids)) a w) → ∀ a, St n ρ a → anyG P ops Q S G (f + ids.length) (marked_ ops.size done) a w
  | [], done, ρ, f, _, hch, k, a, ha => by
    have h := hch w hT
    have h' : ρ = ρF := h
    subst h'
    simpa using k a ha
  | i :: r, done, ρ, f, hck, hch, k, a, ha => by
    simp only [takeOk, Bool.and_eq_true] at hck
    obtain ⟨⟨⟨⟨hi, hGi⟩, hfr⟩, hrd⟩, hck'⟩ := hck
    have hi' : i < ops.size := by simpa [Nat.blt_eq] using hi
    have hoi : ops[i]? = some ops[i] := Array.getElem?_eq_getElem hi'
    have hpick : pickOps ops.toList (i :: r) = ops[i] :: pickOps ops.toList r := by simp [pickOps, hi']
    rw [hpick] at hch
    obtain ⟨d, v, hd, hb, hrun, hch1⟩ := hch w hT
    have same : ∀ w', T w' → ((∀ a, St n ρ a → Region.wanted ops[i] (yielded ops a.tmps) = true ∧ (execOp a.eval ops[i]).run P w' = .ok (.value v) w') ∨ ((∀ a, St n ρ a → Region.wanted ops[i] (yielded ops a.tmps) = false) ∧ v = undef)) ∧
        Chain P n ops ρF (pickOps ops.toList r) ((d, v) :: ρ) w' := fun w' hw' => by
      obtain ⟨d', v', hd', hb', hrun', hch'⟩ := hch w' hw'
      obtain ⟨p1, e1, l1⟩ := hch1.pre
      obtain ⟨p2, e2, l2⟩ := hch'.pre
      have := (List.append_inj (e1.symm.trans e2) (by rw [l1, l2])).2
      simp only [List.cons.injEq, Prod.mk.injEq, and_true] at this
      obtain ⟨rfl, rfl⟩ := this
      exact ⟨hrun', hch'⟩
    have hy : YieldsIf P ops T ops[i] v a := by
      by_cases hw : Region.wanted ops[i] (yielded ops a.tmps) = true
      · refine .inl ⟨hw, fun w' hw' => ?_⟩
        rcases (same w' hw').1 with h | ⟨h, _⟩
        · exact (h a ha).2
        · have := h a ha
          rw [hw] at this
          cases this
      · rcases hrun with h | ⟨_, hv⟩
        · exact absurd (h a ha).1 hw
        · exact .inr ⟨by simpa using hw, hv⟩
    obtain ⟨hcl, hsp⟩ := freeR_spec hoi hfr
    have h4 := batch_ hQ hsel hT hTS r (done ++ [i]) ((d, v) :: ρ) f hck' (fun w' hw' => (same w' hw').2) (by simpa using k) (a.put (some d) v) (ha.put hb v)
    rw [marked_snoc_] at h4
    rw [List.length_cons, ← Nat.add_assoc]
    refine anyG_first (R := fun k => (reachM ops (marked_ ops.size done) i).testBit k) (L0 := marked_ ops.size done) hoi (Region.noSelect_spec hsel) hQ (fun hg w' hw' => by
      rcases hTS with ⟨hp, _⟩ | ⟨_, h⟩
      · subst hp
        simp [hg] at hGi
      · exact (h w').2 hw') hcl (fun j oj hj hne hun hR => ?_) _ _ a w (fun k hk => .inl hk) (fun k hk => hk) (by simpa using hrd) hy hT (by rw [hd]; exact h4)
    obtain ⟨h5, h6⟩ := hsp j oj hj hne hun hR
    refine ⟨h5, fun w' hS => ?_⟩
    rcases hTS with ⟨_, hall⟩ | ⟨hp, hST⟩
    · exact hall w'
    · rcases h6 with h6 | h6
      · rw [hp] at h6; cases h6
      · exact (hST w').1 (hS h6)

/-- The region's operations that are still to come, all but 'done'. -/
def DG (P : Program) (ops : Array Oper) (Q : Exit → Act → World → Prop) (S : World → Prop) (G : Nat → Bool) (f : Nat) (done : List Nat) (n : Nat) (ρ : List (Nat × Value)) (w : World) : Prop :=
  ∀ a, St n ρ a → anyG P ops (noPan Q) S G f (marked_ ops.size done) a w

theorem noPan_no (Q : Exit → Act → World → Prop) : ∀ c a w, ¬ noPan Q (.panic c) a w := fun _ _ _ h => h

section
variable {n : Nat} {ρ : List (Nat × Value)} {w : World} {f : Nat} {done : List Nat} {l : List Oper}

/-- The beginning. S: what holds behind the operations that G marks. -/
theorem W.draw {id : Nat} (hm : P.follows .mixedOrders = true) (S : World → Prop) (G : Nat → Bool) (h : DG P l.toArray Q S G l.length [] n ρ w.drew) : W P (.region id l.toArray true) Q n ρ w := fun a ha =>
  Code.wp_mono (Q := noPan Q) (fun e a w hq => by cases e <;> first | exact hq | exact hq.elim) (wp_region_any hm (any_of_G _ _ _ _ (by simpa [marked_] using h a ha)))

/-- Operations that yield their values whatever the world. -/
theorem DG.pure_ (ids : List Nat) (f' : Nat) {ρF : List (Nat × Value)} (hf : f = f' + ids.length) (hs : Region.noSelect l.toArray = true) (hck : takeOk l.toArray G true done ids = true)
    (hch : ∀ w', (chain P n l.toArray ρF).S (pickOps l ids) ρ w') (k : DG P l.toArray Q S G f' (done ++ ids) n ρF w) : DG P l.toArray Q S G f done n ρ w := by
  subst hf
  exact batch_ (T := fun _ => True) (pure := true) (noPan_no Q) hs trivial (.inl ⟨rfl, fun _ => trivial⟩) ids done ρ f' hck (fun w' _ => by simpa [chain] using hch w') k

/-- Operations that yield their values wherever S holds. -/
theorem DG.take (ids : List Nat) (f' : Nat) {ρF : List (Nat × Value)} (hf : f = f' + ids.length) (hs : Region.noSelect l.toArray = true) (hck : takeOk l.toArray G false done ids = true) (hS : S w)
    (hch : ∀ w', S w' → (chain P n l.toArray ρF).S (pickOps l ids) ρ w') (k : DG P l.toArray Q S G f' (done ++ ids) n ρF w) : DG P l.toArray Q S G f done n ρ w := by
  subst hf
  exact batch_ (T := S) (pure := false) (noPan_no Q) hs hS (.inr ⟨rfl, fun _ => Iff.rfl⟩) ids done ρ f' hck (fun w' hw => by simpa [chain] using hch w' hw) k

theorem Chain.end_ {ρ' : List (Nat × Value)} (h : ρ = ρ') : (chain P n ops ρ').S [] ρ w := h

/-- One operation, then KA. -/
def seqA (P : Program) (ops : Array Oper) (Q : Exit → Act → World → Prop) (KA : Act → World → Prop) : List Oper → Act → World → Prop
  | [], a, w => KA a w
  | o :: rest, a, w => if Region.wanted o (yielded ops a.tmps) then o.wp P a w (seqA P ops Q KA rest) Q else seqA P ops Q KA rest (a.put o.dst undef) w

def one (P : Program) (ops : Array Oper) (Q : Exit → Act → World → Prop) (KA : Act → World → Prop) (n : Nat) : Sq P n where
  ops := ops
  S := fun l ρ w => ∀ a, St n ρ a → seqA P ops Q KA l a w
  Q := Q
  val_ := fun {o rest ρ w d v} hg hdst hd hrun k a ha => by
    unfold seqA
    rw [if_pos (by simp [Region.wanted, hg])]
    unfold Oper.wp
    rw [hrun a ha, Oper.upon_value, hdst]
    exact k _ (ha.put hd v)
  on_ := fun {d op ty pos aft j b rest ρ w t} hj ht k a ha => by
    have h := k a ha
    unfold seqA at h ⊢
    rw [if_pos (by simp [Region.wanted, yielded_of ha hj ht])]
    rw [if_pos (by simp [Region.wanted])] at h
    exact h
  off_ := fun hw hdst hd k a ha => by
    unfold seqA
    rw [if_neg (by rw [hw a ha]; simp), hdst]
    exact k _ (ha.put hd undef)
  step_ := fun hg h a ha => by
    unfold seqA
    rw [if_pos (by simp [Region.wanted, hg])]
    exact h _ (fun a' ρ' w' ha' hr => hr a' ha') a ha

/-- The one operation that may come up now. -/
theorem DG.step (i : Nat) (f' : Nat) (hf : f = f' + 1) (hr : Region.ready .any l.toArray (marked_ l.length done) = [i])
    (h : (one P l.toArray (noPan Q) (fun a' w' => (G i = true → S w') ∧ anyG P l.toArray (noPan Q) S G f' (marked_ l.length (done ++ [i])) a' w') n).S (pickOps l [i]) ρ w) : DG P l.toArray Q S G f done n ρ w := by
  subst hf
  intro a ha
  have hr' : Region.ready .any l.toArray (marked_ l.toArray.size done) = [i] := by simpa using hr
  refine ⟨(fun h0 => by rw [hr'] at h0; cases h0), fun j hj => ?_⟩
  rw [hr', List.mem_singleton] at hj
  subst hj
  have hi : j < l.length := by
    have := (mem_ready (md := .any) (ops := l.toArray) (listed := marked_ l.toArray.size done) (j := j)).1 (by rw [hr']; simp)
    obtain ⟨_, o, ho, _⟩ := this
    simpa using (Array.getElem?_eq_some_iff.1 ho).1
  have h1 := h a ha
  have hpick : pickOps l [j] = [l[j]] := by simp [pickOps, hi]
  rw [hpick] at h1
  unfold seqA at h1
  unfold wpOp
  have e : l.toArray[j]? = some l[j] := by simp [hi]
  simp only [e]
  split
  · rename_i hw
    rw [if_pos hw] at h1
    refine .inl (Oper.wp_mono (fun a' w' h2 => ?_) h1)
    unfold seqA at h2
    refine ⟨h2.1, ?_⟩
    rw [← marked_snoc_]
    simpa using h2.2
  · rename_i hw
    rw [if_neg hw] at h1
    unfold seqA at h1
    refine ⟨h1.1, ?_⟩
    rw [← marked_snoc_]
    simpa using h1.2

theorem DG.sub (ρ' : List (Nat × Value)) (hs : envSub ρ ρ') (h : DG P l.toArray Q S G f done n ρ' w) : DG P l.toArray Q S G f done n ρ w := fun a ha => h a (ha.sub hs)

/-- Each of the operations that may come up now. -/
theorem DG.steps (ids : List Nat) (f' : Nat) (hf : f = f' + 1) (hr : Region.ready .any l.toArray (marked_ l.length done) = ids) (hne : ids.isEmpty = false)
    (h : ∀ i ∈ ids, (one P l.toArray (noPan Q) (fun a' w' => (G i = true → S w') ∧ anyG P l.toArray (noPan Q) S G f' (marked_ l.length (done ++ [i])) a' w') n).S (pickOps l [i]) ρ w) : DG P l.toArray Q S G f done n ρ w := by
  subst hf
  intro a ha
  have hr' : Region.ready .any l.toArray (marked_ l.toArray.size done) = ids := by simpa using hr
  refine ⟨(fun h0 => by rw [hr'] at h0; subst h0; simp at hne), fun j hj => ?_⟩
  rw [hr'] at hj
  have hi : j < l.length := by
    have := (mem_ready (md := .any) (ops := l.toArray) (listed := marked_ l.toArray.size done) (j := j)).1 (by rw [hr']; exact hj)
    obtain ⟨_, o, ho, _⟩ := this
    simpa using (Array.getElem?_eq_some_iff.1 ho).1
  have h1 := h j hj a ha
  have hpick : pickOps l [j] = [l[j]] := by simp [pickOps, hi]
  rw [hpick] at h1
  unfold seqA at h1
  unfold wpOp
  have e : l.toArray[j]? = some l[j] := by simp [hi]
  simp only [e]
  split
  · rename_i hw
    rw [if_pos hw] at h1
    refine .inl (Oper.wp_mono (fun a' w' h2 => ?_) h1)
    unfold seqA at h2
    refine ⟨h2.1, ?_⟩
    rw [← marked_snoc_]
    simpa using h2.2
  · rename_i hw
    rw [if_neg hw] at h1
    unfold seqA at h1
    refine ⟨h1.1, ?_⟩
    rw [← marked_snoc_]
    simpa using h1.2

/-- Behind it. -/
theorem DG.go {i : Nat} {f' : Nat} (hS : G i = true → S w) (h : DG P l.toArray Q S G f' (done ++ [i]) n ρ w) :
    (one P l.toArray (noPan Q) (fun a' w' => (G i = true → S w') ∧ anyG P l.toArray (noPan Q) S G f' (marked_ l.length (done ++ [i])) a' w') n).S [] ρ w := fun a ha => by
  unfold seqA
  exact ⟨hS, by simpa using h a ha⟩

/-- All have come up. -/
theorem DG.end_ (hr : Region.ready .any l.toArray (marked_ l.length done) = []) (h : WX Q .normal n ρ w) : DG P l.toArray Q S G f done n ρ w := fun a ha => by
  have hr' : Region.ready .any l.toArray (marked_ l.toArray.size done) = [] := by simpa using hr
  cases f with
  | zero => exact ⟨hr', h a ha⟩
  | succ f => exact ⟨fun _ => h a ha, by rw [hr']; simp⟩
end
end
end Go.Proofs.Ytkdkdaljgoibaaa
