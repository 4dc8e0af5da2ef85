/-
  What is known of memory: the blocks that are owned, one behind the other and apart (Mem), and slices that can be read (Rd).
  Rules for operations that read or write. Generic in the program.
-/
import Derived.Test.YtkdkdaljgoibaaaOps
namespace Go.Proofs.Ytkdkdaljgoibaaa
open Go Go.RowKit

/-- From w to w' only the blocks of F were written, and blocks were made. -/
structure Chg (w w' : World) (F : Nat → Prop) : Prop where
  os : w'.os = w.os
  tape : w'.tape = w.tape
  output : w'.output = w.output
  size : w.heap.size ≤ w'.heap.size
  block : ∀ k, k < w.heap.size → ¬ F k → w'.heap[k]? = w.heap[k]?

def none_ : Nat → Prop := fun _ => False

theorem Chg.refl (w : World) (F : Nat → Prop) : Chg w w F := ⟨rfl, rfl, rfl, Nat.le_refl _, fun _ _ _ => rfl⟩
theorem Chg.trans {a b c : World} {F : Nat → Prop} (h : Chg a b F) (k : Chg b c F) : Chg a c F :=
  ⟨k.os.trans h.os, k.tape.trans h.tape, k.output.trans h.output, Nat.le_trans h.size k.size, fun i hi hn => (k.block i (Nat.lt_of_lt_of_le hi h.size) hn).trans (h.block i hi hn)⟩
theorem Chg.below {w w' : World} (h : Chg w w' none_) : Below w.heap.size w w' := ⟨h.os, h.tape, h.output, h.size, fun k hk => h.block k hk id⟩
theorem Chg.cell {w w' : World} {F : Nat → Prop} (h : Chg w w' F) {a : Addr} (ha : a.block < w.heap.size) (hn : ¬ F a.block) : w'.cell? a = w.cell? a :=
  World.cell?_of_block (h.block _ ha hn)

/-- Something that stands in memory: its blocks, and what is said of them. -/
structure Asr where
  foot : Nat → Prop
  holds : World → Prop
  bound : ∀ w, holds w → ∀ g, foot g → g < w.heap.size
  stays : ∀ w w', (∀ g, foot g → w'.heap[g]? = w.heap[g]?) → holds w → holds w'

/-- Block g is just o. -/
def Asr.obj (g : Nat) (o : Obj) : Asr where
  foot := fun k => k = g
  holds := fun w => w.heap[g]? = some o
  bound := fun _ h k hk => by subst hk; exact (Array.getElem?_eq_some_iff.1 h).1
  stays := fun _ _ h hh => by rw [h g rfl]; exact hh

/-- Block g is a row of cells. -/
def Asr.row (g : Nat) (t : TypeId) (cs : List Value) : Asr := Asr.obj g (.cells cs.toArray t (0, 0))

/-- What stands apart. -/
def Sep : List Asr → World → Prop
  | [], _ => True
  | A :: L, w => A.holds w ∧ (∀ B ∈ L, ∀ g, A.foot g → ¬ B.foot g) ∧ Sep L w

theorem Sep.bound : ∀ {L : List Asr} {w : World}, Sep L w → ∀ A ∈ L, ∀ g, A.foot g → g < w.heap.size
  | _ :: _, _, h, B, hB, g, hg => by
    rcases List.mem_cons.1 hB with rfl | hB
    · exact B.bound _ h.1 g hg
    · exact Sep.bound h.2.2 B hB g hg

theorem Sep.stays : ∀ {L : List Asr} {w w' : World}, (∀ A ∈ L, ∀ g, A.foot g → w'.heap[g]? = w.heap[g]?) → Sep L w → Sep L w'
  | [], _, _, _, _ => trivial
  | A :: L, w, w', hk, h => ⟨A.stays w w' (hk A (List.mem_cons_self ..)) h.1, h.2.1, Sep.stays (fun B hB => hk B (List.mem_cons_of_mem _ hB)) h.2.2⟩

theorem Sep.append : ∀ {L M : List Asr} {w : World}, Sep L w → Sep M w → (∀ A ∈ L, ∀ B ∈ M, ∀ g, A.foot g → ¬ B.foot g) → Sep (L ++ M) w
  | [], _, _, _, hM, _ => hM
  | A :: L, M, w, hL, hM, hd => ⟨hL.1, fun B hB g hg => by
      rcases List.mem_append.1 hB with hB | hB
      · exact hL.2.1 B hB g hg
      · exact hd A (List.mem_cons_self ..) B hB g hg,
    Sep.append hL.2.2 hM fun B hB => hd B (List.mem_cons_of_mem _ hB)⟩

theorem Sep.perm {L M : List Asr} (hp : L.Perm M) {w : World} (h : Sep L w) : Sep M w := by
  induction hp with
  | nil => exact h
  | cons A hp ih => exact ⟨h.1, fun B hB => h.2.1 B (hp.mem_iff.2 hB), ih h.2.2⟩
  | swap A B L =>
    obtain ⟨h1, h2, h3, h4, h5⟩ := h
    refine ⟨h3, fun C hC g hg hn => ?_, h1, fun C hC => h2 C (List.mem_cons_of_mem _ hC), h5⟩
    rcases List.mem_cons.1 hC with rfl | hC
    · exact h2 A (List.mem_cons_self ..) g hn hg
    · exact h4 C hC g hg hn
  | trans _ _ ih1 ih2 => exact ih2 (ih1 h)

/-- Since w0 only new blocks were written; L stands in them. -/
structure Mem (w0 w : World) (L : List Asr) : Prop where
  base : Chg w0 w none_
  sep : Sep L w
  new : ∀ A ∈ L, ∀ g, A.foot g → w0.heap.size ≤ g

section
variable {w0 w w' : World} {L : List Asr} {A : Asr}

theorem Mem.refl (w : World) : Mem w w [] := ⟨Chg.refl _ _, trivial, fun _ h => by cases h⟩
theorem Mem.head (h : Mem w0 w (A :: L)) : A.holds w := h.sep.1
theorem Mem.tail (h : Mem w0 w (A :: L)) : Mem w0 w L := ⟨h.base, h.sep.2.2, fun B hB => h.new B (List.mem_cons_of_mem _ hB)⟩
theorem Mem.perm {M : List Asr} (h : Mem w0 w L) (hp : L.Perm M) : Mem w0 w M := ⟨h.base, h.sep.perm hp, fun B hB => h.new B (hp.mem_iff.2 hB)⟩
theorem Mem.nil (h : Mem w0 w L) : Mem w0 w [] := ⟨h.base, trivial, fun _ hA => by cases hA⟩
theorem Mem.bound (h : Mem w0 w L) {B : Asr} (hB : B ∈ L) {g : Nat} (hg : B.foot g) : g < w.heap.size := h.sep.bound B hB g hg

/-- To the front. -/
theorem Mem.f1 {A B : Asr} (h : Mem w0 w (A :: B :: L)) : Mem w0 w (B :: A :: L) := h.perm (List.Perm.swap ..)
theorem Mem.f2 {A B C : Asr} (h : Mem w0 w (A :: B :: C :: L)) : Mem w0 w (C :: A :: B :: L) :=
  h.perm ((List.Perm.cons A (List.Perm.swap ..)).trans (List.Perm.swap ..))
theorem Mem.f3 {A B C D : Asr} (h : Mem w0 w (A :: B :: C :: D :: L)) : Mem w0 w (D :: A :: B :: C :: L) :=
  h.perm (((List.Perm.cons A ((List.Perm.cons B (List.Perm.swap ..)).trans (List.Perm.swap ..)))).trans (List.Perm.swap ..))
theorem Mem.f4 {A B C D E : Asr} (h : Mem w0 w (A :: B :: C :: D :: E :: L)) : Mem w0 w (E :: A :: B :: C :: D :: L) :=
  h.perm ((List.Perm.cons A ((List.Perm.cons B ((List.Perm.cons C (List.Perm.swap ..)).trans (List.Perm.swap ..))).trans (List.Perm.swap ..))).trans (List.Perm.swap ..))

theorem Mem.drop1 {A B : Asr} (h : Mem w0 w (A :: B :: L)) : Mem w0 w (A :: L) := h.f1.tail
theorem Mem.drop2 {A B C : Asr} (h : Mem w0 w (A :: B :: C :: L)) : Mem w0 w (A :: B :: L) := h.f2.tail
theorem Mem.drop3 {A B C D : Asr} (h : Mem w0 w (A :: B :: C :: D :: L)) : Mem w0 w (A :: B :: C :: L) := h.f3.tail

/-- What turns no block that was there. -/
theorem Mem.chg (h : Mem w0 w L) (hc : Chg w w' none_) : Mem w0 w' L :=
  ⟨h.base.trans ⟨hc.os, hc.tape, hc.output, hc.size, fun k hk _ => hc.block k hk id⟩, h.sep.stays fun B hB g hg => hc.block g (h.sep.bound B hB g hg) id, h.new⟩

theorem Mem.drew (h : Mem w0 w L) : Mem w0 w.drew L := h.chg ⟨rfl, rfl, rfl, Nat.le_refl _, fun _ _ _ => rfl⟩

/-- A callee that reads, and makes. -/
theorem Mem.call {M : List Asr} (h : Mem w0 w L) (h' : Mem w w' M) : Mem w0 w' (M ++ L) := by
  have hw := h.chg h'.base
  refine ⟨hw.base, h'.sep.append hw.sep fun B hB C hC g hg hn => ?_, fun B hB g hg => ?_⟩
  · have h1 := h'.new B hB g hg
    have h2 := h.sep.bound C hC g hn
    omega
  · rcases List.mem_append.1 hB with hB | hB
    · have h1 := h'.new B hB g hg
      have h2 := h.base.size
      omega
    · exact h.new B hB g hg

theorem Mem.alloc (h : Mem w0 w L) (o : Obj) : Mem w0 (w.alloc o) (Asr.obj w.heap.size o :: L) := by
  have h1 : Mem w (w.alloc o) [Asr.obj w.heap.size o] :=
    ⟨⟨rfl, rfl, rfl, by simp, fun k hk _ => Below.heap_alloc w o k hk⟩, ⟨Go.heap_alloc_new w o, (fun B hB => by cases hB), trivial⟩, fun B hB g hg => by
      rw [List.mem_singleton] at hB
      subst hB
      have hg' : g = w.heap.size := hg
      omega⟩
  exact h.call h1

/-- What stands in front is written. -/
theorem Mem.write {B : Asr} (h : Mem w0 w (A :: L)) (hc : Chg w w' A.foot) (hB : B.holds w') (hf : ∀ g, B.foot g → A.foot g ∨ w.heap.size ≤ g) : Mem w0 w' (B :: L) := by
  have hnew : ∀ k, A.foot k → w0.heap.size ≤ k := h.new A (List.mem_cons_self ..)
  refine ⟨⟨hc.os.trans h.base.os, hc.tape.trans h.base.tape, hc.output.trans h.base.output, Nat.le_trans h.base.size hc.size, fun k hk _ => ?_⟩, ⟨hB, fun C hC g hg hn => ?_, ?_⟩, fun C hC g hg => ?_⟩
  · rw [hc.block k (Nat.lt_of_lt_of_le hk h.base.size) (fun hf => by have := hnew k hf; omega)]
    exact h.base.block k hk id
  · rcases hf g hg with hA | hge
    · exact h.sep.2.1 C hC g hA hn
    · have := h.sep.bound C (List.mem_cons_of_mem _ hC) g hn
      omega
  · exact h.sep.2.2.stays fun C hC g hg => hc.block g (h.sep.bound C (List.mem_cons_of_mem _ hC) g hg) fun hA => h.sep.2.1 C hC g hA hg
  · rcases List.mem_cons.1 hC with rfl | hC
    · rcases hf g hg with hA | hge
      · exact hnew g hA
      · have := h.base.size
        omega
    · exact h.new C (List.mem_cons_of_mem _ hC) g hg

theorem Mem.set {g : Nat} {t : TypeId} {cs : List Value} (h : Mem w0 w (Asr.row g t cs :: L)) (i : Nat) (v : Value) :
    Mem w0 (w.setCell ⟨g, i, none⟩ v) (Asr.row g t (cs.set i v) :: L) := by
  have hg : w.heap[g]? = some (.cells cs.toArray t (0, 0)) := h.head
  refine h.write ⟨rfl, rfl, rfl, by simp, fun k _ hn => heap_setCell_other w ⟨g, i, none⟩ k v (fun e => hn e)⟩ ?_ (fun _ hf => .inl hf)
  have := heap_setCell_same w g i cs.toArray t v hg
  simpa [Asr.row, Asr.obj] using this

theorem Mem.cell {g : Nat} {t : TypeId} {cs : List Value} (h : Mem w0 w (Asr.row g t cs :: L)) (i : Nat) : w.cell? ⟨g, i, none⟩ = cs[i]? := by
  have hg : w.heap[g]? = some (.cells cs.toArray t (0, 0)) := h.head
  rw [cell_of_row w g i _ t _ hg]
  simp
theorem Mem.frozen {g : Nat} {t : TypeId} {cs : List Value} (h : Mem w0 w (Asr.row g t cs :: L)) (i : Nat) : w.frozen? ⟨g, i, none⟩ = false :=
  frozen_of_row w g i _ t h.head
end

/-! ### slices that can be read -/

theorem add_block (a : Addr) (n : Nat) : (a.add n).block = a.block := by unfold Addr.add; split <;> rfl
theorem add_add (a : Addr) (i j : Nat) : (a.add i).add j = a.add (i + j) := by
  unfold Addr.add
  by_cases hi : i = 0 <;> by_cases hj : j = 0 <;> simp [hi, hj, Nat.add_assoc]
theorem add_lit (b o n : Nat) : Addr.add ⟨b, o, none⟩ n = ⟨b, o + n, none⟩ := Addr.add_lit b o n

/-- The slice '.slice A n cap' of elements of 'size' cells holds the cells vs. -/
structure Rd (w : World) (A : Option Addr) (n cap size : Nat) (vs : List Value) : Prop where
  len : vs.length = n * size
  le : n ≤ cap
  at_ : 0 < n → ∃ ad, A = some ad ∧ ad.block < w.heap.size ∧ ∀ j v, vs[j]? = some v → w.cell? (ad.add j) = some v

section
variable {w w' : World} {A : Option Addr} {n cap size : Nat} {vs : List Value}

theorem Rd.chg {F : Nat → Prop} (h : Rd w A n cap size vs) (hc : Chg w w' F) (hF : ∀ ad, A = some ad → ¬ F ad.block) : Rd w' A n cap size vs :=
  ⟨h.len, h.le, fun hn => by
    obtain ⟨ad, e, hb, hcell⟩ := h.at_ hn
    refine ⟨ad, e, Nat.lt_of_lt_of_le hb hc.size, fun j v hv => ?_⟩
    rw [hc.cell (by rw [add_block]; exact hb) (by rw [add_block]; exact hF ad e)]
    exact hcell j v hv⟩
theorem Rd.mem {L : List Asr} (h : Rd w A n cap size vs) (hm : Mem w w' L) : Rd w' A n cap size vs := h.chg hm.base fun _ _ => id
theorem Rd.drew (h : Rd w A n cap size vs) : Rd w.drew A n cap size vs := ⟨h.len, h.le, h.at_⟩
theorem Rd.nil (w : World) (c size : Nat) : Rd w none 0 c size [] := ⟨by simp, Nat.zero_le _, fun h => by omega⟩
theorem Rd.row {g : Nat} {t : TypeId} {cs : List Value} {w0 : World} {L : List Asr} (h : Mem w0 w (Asr.row g t cs :: L)) (o : Nat) (hv : vs = (cs.drop o).take (n * size)) (hl : o + n * size ≤ cs.length) (hc : n ≤ cap) :
    Rd w (some ⟨g, o, none⟩) n cap size vs := by
  subst hv
  refine ⟨by simp; omega, hc, fun _ => ⟨_, rfl, (Array.getElem?_eq_some_iff.1 h.head).1, fun j v hv => ?_⟩⟩
  rw [add_lit, h.cell]
  rw [List.getElem?_take] at hv
  split at hv
  · simpa using hv
  · cases hv

/-- 'x[l:h]' -/
theorem Rd.cut (h : Rd w A n cap size vs) {l m : Nat} (hlm : l ≤ m) (hm : m ≤ n) :
    Rd w (if cap = l then A else A.map (·.add (l * size))) (m - l) (cap - l) size ((vs.drop (l * size)).take ((m - l) * size)) := by
  refine ⟨?_, by have := h.le; omega, fun hn => ?_⟩
  · have h1 := h.len
    have h2 : m * size ≤ n * size := Nat.mul_le_mul_right _ hm
    have h3 : (m - l) * size = m * size - l * size := Nat.sub_mul ..
    have h4 : l * size ≤ m * size := Nat.mul_le_mul_right _ hlm
    simp only [List.length_take, List.length_drop]
    omega
  · obtain ⟨ad, e, hb, hcell⟩ := h.at_ (by omega)
    have hne : ¬ cap = l := by have := h.le; omega
    rw [if_neg hne, e]
    refine ⟨_, rfl, by rw [add_block]; exact hb, fun j v hv => ?_⟩
    rw [add_add]
    refine hcell _ v ?_
    rw [List.getElem?_take] at hv
    split at hv
    · simpa using hv
    · cases hv
end

/-! ### bytes -/

def bv (u : UInt8) : Value := .int .u8 (u.toNat : Int)
def bs (l : List UInt8) : List Value := l.map bv
theorem bs_length (l : List UInt8) : (bs l).length = l.length := by simp [bs]
theorem bs_get (l : List UInt8) (j : Nat) : (bs l)[j]? = (l[j]?).map bv := by simp [bs]
theorem bs_append (l m : List UInt8) : bs (l ++ m) = bs l ++ bs m := by simp [bs]
theorem bs_drop (l : List UInt8) (k : Nat) : (bs l).drop k = bs (l.drop k) := by simp [bs]
theorem bs_take (l : List UInt8) (k : Nat) : (bs l).take k = bs (l.take k) := by simp [bs]
theorem bs_set (l : List UInt8) (k : Nat) (u : UInt8) : (bs l).set k (bv u) = bs (l.set k u) := by simp [bs, List.map_set]

/-- A slice of bytes that reads as l. -/
def RdB (w : World) (A : Option Addr) (cap : Nat) (l : List UInt8) : Prop := Rd w A l.length cap 1 (bs l)

section
variable {w w' : World} {A : Option Addr} {cap : Nat} {l : List UInt8}
theorem RdB.mem {L : List Asr} (h : RdB w A cap l) (hm : Mem w w' L) : RdB w' A cap l := Rd.mem h hm
theorem RdB.nil (w : World) (c : Nat) : RdB w none c [] := Rd.nil w c 1
theorem RdB.cut (h : RdB w A cap l) {i j : Nat} (hij : i ≤ j) (hj : j ≤ l.length) :
    RdB w (if cap = i then A else A.map (·.add (i * 1))) (cap - i) ((l.drop i).take (j - i)) := by
  have := Rd.cut h hij hj
  have e : ((l.drop i).take (j - i)).length = j - i := by simp; omega
  unfold RdB
  rw [e, ← bs_take, ← bs_drop]
  simpa using this
theorem RdB.row {g : Nat} {t : TypeId} {cs : List Value} {w0 : World} {L : List Asr} (h : Mem w0 w (Asr.row g t cs :: L)) (o : Nat) (hv : bs l = (cs.drop o).take l.length) (hc : l.length ≤ cap) :
    RdB w (some ⟨g, o, none⟩) cap l := by
  by_cases hl : l.length = 0
  · have : l = [] := List.eq_nil_of_length_eq_zero hl
    subst this
    exact ⟨by simp [bs], by simp, fun h => by simp at h⟩
  · have h1 := congrArg List.length hv
    simp only [bs_length, List.length_take, List.length_drop] at h1
    exact Rd.row h o (by simpa using hv) (by omega) hc
end

/-! ### operations -/

section
variable {P : Program} {n : Nat} {ρ : List (Nat × Value)} {w0 w : World} {rest : List Oper} {L : List Asr} {X : SqV P n} {Y : Sq P n}
variable {d : Nat} {ty : TypeId} {pos : String} {aft : Array Edge} {x y : Operand} {t t' e : TypeId} {k yk : IntKind} {i j r : Int}

/-- 'x[j]': where it lies. -/
theorem WL.idx {A : Option Addr} {m c size : Nat} {vs : List Value} (ht : P.underlying t = some (.slice e)) (hs : ∀ w, (sizeOf e).run P w = .ok size w) (hx : ev ρ x = some (.slice A m c)) (hy : ev ρ y = some (.int k j))
    (h : Rd w A m c size vs) (h0 : 0 ≤ j) (h1 : j < m) (hd : Nat.blt d n = true)
    (kk : ∀ ad, ad.block < w.heap.size → (∀ o, o < size → w.cell? (ad.add o) = vs[j.toNat * size + o]?) → X.S rest ((d, .pointer (some ad)) :: ρ) w) :
    X.S (⟨some d, .indexAddr t x y, ty, pos, aft, none⟩ :: rest) ρ w := by
  obtain ⟨ad, rfl, hb, hc⟩ := h.at_ (by omega)
  refine WL.val (v := .pointer (some (ad.add (j.toNat * size)))) rfl rfl hd (fun a ha => ?_) (kk _ (by rw [add_block]; exact hb) fun o ho => ?_)
  · simp [execOp, ha.eval hx, ha.eval hy, Instr.indexAt, run_underlying ht, asIntOf, h0, h1, hs]
  · rw [add_add]
    have hlt : j.toNat * size + o < vs.length := by
      rw [h.len]
      have : (j.toNat + 1) * size ≤ m * size := Nat.mul_le_mul_right _ (by omega)
      rw [Nat.add_mul] at this
      omega
    rw [List.getElem?_eq_getElem hlt]
    exact hc _ _ (List.getElem?_eq_getElem hlt)

/-- 'x[j]' of bytes. -/
theorem WL.idxB {A : Option Addr} {c m : Nat} {l : List UInt8} (ht : P.underlying t = some (.slice e)) (hs : ∀ w, (sizeOf e).run P w = .ok 1 w) (hx : ev ρ x = some (.slice A m c)) (hy : ev ρ y = some (.int k j))
    (h : RdB w A c l) (hm : m = l.length) (h0 : 0 ≤ j) (h1 : j < l.length) (hd : Nat.blt d n = true)
    (kk : ∀ ad, w.cell? ad = some (bv (l[j.toNat]'(by omega))) → X.S rest ((d, .pointer (some ad)) :: ρ) w) :
    X.S (⟨some d, .indexAddr t x y, ty, pos, aft, none⟩ :: rest) ρ w := by
  subst hm
  refine WL.idx ht hs hx hy h h0 h1 hd fun ad _ hc => kk ad ?_
  have := hc 0 (by omega)
  simp only [Nat.mul_one, Nat.add_zero, bs_get] at this
  rw [show ad.add 0 = ad by simp [Addr.add]] at this
  rw [this, List.getElem?_eq_getElem (by omega)]
  rfl

/-- 'x[j]' where x lies at cell o of a block: the address itself. -/
theorem WL.idxAt {g o : Nat} {m c size : Nat} (ht : P.underlying t = some (.slice e)) (hs : ∀ w, (sizeOf e).run P w = .ok size w) (hx : ev ρ x = some (.slice (some ⟨g, o, none⟩) m c)) (hy : ev ρ y = some (.int k j))
    (h0 : 0 ≤ j) (h1 : j < m) {o' : Nat} (ho : o + j.toNat * size = o') (hd : Nat.blt d n = true)
    (kk : X.S rest ((d, .pointer (some ⟨g, o', none⟩)) :: ρ) w) :
    X.S (⟨some d, .indexAddr t x y, ty, pos, aft, none⟩ :: rest) ρ w := by
  subst ho
  exact WL.val rfl rfl hd (fun a ha => by simp [execOp, ha.eval hx, ha.eval hy, Instr.indexAt, run_underlying ht, asIntOf, h0, h1, hs, add_lit]) kk

/-- 'x[j]' where the address is at hand. -/
theorem WL.idxP {ad : Addr} {m c size : Nat} (ht : P.underlying t = some (.slice e)) (hs : ∀ w, (sizeOf e).run P w = .ok size w) (hx : ev ρ x = some (.slice (some ad) m c)) (hy : ev ρ y = some (.int k j))
    (h0 : 0 ≤ j) (h1 : j < m) {o' : Nat} (ho : j.toNat * size = o') (hd : Nat.blt d n = true)
    (kk : X.S rest ((d, .pointer (some (ad.add o'))) :: ρ) w) : X.S (⟨some d, .indexAddr t x y, ty, pos, aft, none⟩ :: rest) ρ w := by
  subst ho
  exact WL.val rfl rfl hd (fun a ha => by simp [execOp, ha.eval hx, ha.eval hy, Instr.indexAt, run_underlying ht, asIntOf, h0, h1, hs]) kk

theorem RdB.cell {w : World} {ad : Addr} {c : Nat} {l : List UInt8} (h : RdB w (some ad) c l) {o : Nat} (ho : o < l.length) : w.cell? (ad.add o) = some (bv l[o]) := by
  obtain ⟨ad', e, _, hc⟩ := h.at_ (by omega)
  cases e
  exact hc o _ (by rw [bs_get, List.getElem?_eq_getElem ho]; rfl)
theorem RdB.some_ {w : World} {A : Option Addr} {c : Nat} {l : List UInt8} (h : RdB w A c l) (hl : 0 < l.length) : ∃ ad, A = some ad := by
  obtain ⟨ad, e, _⟩ := h.at_ hl
  exact ⟨ad, e⟩

theorem WL.load {ad : Addr} {v : Value} (hA : ∀ w, (isAgg t).run P w = .ok false w) (hx : ev ρ x = some (.pointer (some ad))) (hc : w.cell? ad = some v) (hd : Nat.blt d n = true)
    (kk : X.S rest ((d, v) :: ρ) w) : X.S (⟨some d, .load t x, ty, pos, aft, none⟩ :: rest) ρ w :=
  WL.val rfl rfl hd (fun a ha => by simp [execOp, ha.eval hx, Instr.loadAt, Instr.sureAddr, loadVar, hA, hc]) kk

theorem WL.fieldAddr {ad : Addr} {fs : Array Field} {f : Field} {fi : Nat} (ht : P.underlying t = some (.struct fs)) (hf : fs[fi]? = some f) (hx : ev ρ x = some (.pointer (some ad)))
    (hr : ∀ w, (fieldPlace ad f).run P w = .ok (ad.add f.offset) w) (hd : Nat.blt d n = true)
    (kk : X.S rest ((d, .pointer (some (ad.add f.offset))) :: ρ) w) : X.S (⟨some d, .fieldAddr t x fi, ty, pos, aft, none⟩ :: rest) ρ w :=
  WL.val rfl rfl hd (fun a ha => by simp [execOp, ha.eval hx, Instr.fieldAt, run_underlying ht, hf, Instr.sureAddr, hr]) kk

theorem WL.nilCheck {ad : Addr} (hx : ev ρ x = some (.pointer (some ad))) (hd : Nat.blt d n = true)
    (kk : X.S rest ((d, .pointer (some ad)) :: ρ) w) : X.S (⟨some d, .nilCheck x, ty, pos, aft, none⟩ :: rest) ρ w :=
  WL.val rfl rfl hd (fun a ha => by simp [execOp, ha.eval hx]) kk

/-- A store of one cell into what stands in front. -/
theorem WL.store {g o : Nat} {te : TypeId} {cs : List Value} {v : Value} (M : Mem w0 w (Asr.row g te cs :: L)) (hs : ∀ w, (sizeOf t).run P w = .ok 1 w) (hx : ev ρ x = some (.pointer (some ⟨g, o, none⟩))) (hy : ev ρ y = some v)
    (hv : v.oneCell' = true) (ho : o < cs.length) (kk : ∀ w', Mem w0 w' (Asr.row g te (cs.set o v) :: L) → Y.S rest ρ w') :
    Y.S (⟨none, .store t x y, ty, pos, aft, none⟩ :: rest) ρ w := by
  refine WL.unit rfl rfl (fun a ha => ?_) (kk _ (M.set o v))
  have hc : w.cell? ⟨g, o, none⟩ = some cs[o] := by rw [M.cell]; exact List.getElem?_eq_getElem ho
  have hfr := M.frozen o
  have hcells : v.cells = #[v] := by cases v <;> first | rfl | simp [Value.oneCell'] at hv
  simp [execOp, ha.eval hx, ha.eval hy, Instr.storeAt, Instr.sureAddr, storeVar, hs, hcells, storeCells, run_store _ _ _ _ _ hv, hc, hfr, Addr.add_zero']

/-- A slice of a slice that can be read. -/
theorem WL.sliceLH {A : Option Addr} {c m size : Nat} {vs : List Value} {lo hi : Operand} {kl kh : IntKind} {a b : Int} (ht : P.underlying t = some (.slice e)) (hs : ∀ w, (sizeOf e).run P w = .ok size w) (hx : ev ρ x = some (.slice A m c))
    (hl : ev ρ lo = some (.int kl a)) (hh : ev ρ hi = some (.int kh b)) (h : Rd w A m c size vs) (h0 : 0 ≤ a) (h1 : a ≤ b) (h2 : b ≤ m) (hd : Nat.blt d n = true)
    (kk : ∀ A', Rd w A' (b.toNat - a.toNat) (c - a.toNat) size ((vs.drop (a.toNat * size)).take ((b.toNat - a.toNat) * size)) → X.S rest ((d, .slice A' (b.toNat - a.toNat) (c - a.toNat)) :: ρ) w) :
    X.S (⟨some d, .slice t x (some lo) (some hi) none, ty, pos, aft, none⟩ :: rest) ρ w := by
  have hle := h.le
  refine WL.val rfl rfl hd (fun f hf => ?_) (kk _ (h.cut (l := a.toNat) (m := b.toNat) (by omega) (by omega)))
  have eb : (b.toNat : Int) = b := Int.toNat_of_nonneg (by omega)
  simp [execOp, hf.eval hx, hf.eval hl, hf.eval hh, Instr.sliceAt, Instr.slice, run_underlying ht, Instr.sliceBounds, run_sliceBound, hs, eb, h0, h1, (by omega : 0 ≤ b), (by omega : b ≤ c)]
/-- Its address written out; what is there is asked elsewhere. -/
theorem WL.sliceLHX {A A' : Option Addr} {c m size m' c' : Nat} {lo hi : Operand} {kl kh : IntKind} {a b : Int} (ht : P.underlying t = some (.slice e)) (hs : ∀ w, (sizeOf e).run P w = .ok size w) (hx : ev ρ x = some (.slice A m c))
    (hl : ev ρ lo = some (.int kl a)) (hh : ev ρ hi = some (.int kh b)) (h0 : 0 ≤ a) (h1 : a ≤ b) (h2 : b ≤ c) (hA : (if c = a.toNat then A else A.map (·.add (a.toNat * size))) = A') (hm : b.toNat - a.toNat = m') (hc : c - a.toNat = c') (hd : Nat.blt d n = true)
    (kk : X.S rest ((d, .slice A' m' c') :: ρ) w) :
    X.S (⟨some d, .slice t x (some lo) (some hi) none, ty, pos, aft, none⟩ :: rest) ρ w := by
  subst hA hm hc
  refine WL.val rfl rfl hd (fun f hf => ?_) kk
  have eb : (b.toNat : Int) = b := Int.toNat_of_nonneg (by omega)
  simp [execOp, hf.eval hx, hf.eval hl, hf.eval hh, Instr.sliceAt, Instr.slice, run_underlying ht, Instr.sliceBounds, run_sliceBound, hs, eb, h0, h1, (by omega : 0 ≤ b), (by omega : b ≤ c)]
theorem WL.sliceL {A : Option Addr} {c m size : Nat} {vs : List Value} {lo : Operand} {kl : IntKind} {a : Int} (ht : P.underlying t = some (.slice e)) (hs : ∀ w, (sizeOf e).run P w = .ok size w) (hx : ev ρ x = some (.slice A m c))
    (hl : ev ρ lo = some (.int kl a)) (h : Rd w A m c size vs) (h0 : 0 ≤ a) (h2 : a ≤ m) (hd : Nat.blt d n = true)
    (kk : ∀ A', Rd w A' (m - a.toNat) (c - a.toNat) size (vs.drop (a.toNat * size)) → X.S rest ((d, .slice A' (m - a.toNat) (c - a.toNat)) :: ρ) w) :
    X.S (⟨some d, .slice t x (some lo) none none, ty, pos, aft, none⟩ :: rest) ρ w := by
  have hc := h.cut (l := a.toNat) (m := m) (by omega) (Nat.le_refl _)
  rw [List.take_of_length_le (by rw [List.length_drop, h.len, Nat.sub_mul]; omega)] at hc
  refine WL.val rfl rfl hd (fun f hf => ?_) (kk _ hc)
  simp [execOp, hf.eval hx, hf.eval hl, Instr.sliceAt, Instr.slice, run_underlying ht, Instr.sliceBounds, run_sliceBound, hs, h0, h2]
theorem WL.sliceH {A : Option Addr} {c m size : Nat} {vs : List Value} {hi : Operand} {kh : IntKind} {b : Int} (ht : P.underlying t = some (.slice e)) (hs : ∀ w, (sizeOf e).run P w = .ok size w) (hx : ev ρ x = some (.slice A m c))
    (hh : ev ρ hi = some (.int kh b)) (h : Rd w A m c size vs) (h1 : 0 ≤ b) (h2 : b ≤ m) (hd : Nat.blt d n = true)
    (kk : Rd w A b.toNat c size (vs.take (b.toNat * size)) → X.S rest ((d, .slice A b.toNat c) :: ρ) w) :
    X.S (⟨some d, .slice t x none (some hi) none, ty, pos, aft, none⟩ :: rest) ρ w := by
  have hle := h.le
  have hc := h.cut (l := 0) (m := b.toNat) (by omega) (by omega)
  have hA : (if c = 0 then A else A.map (·.add (0 * size))) = A := by
    split
    · rfl
    · cases A <;> simp [Addr.add]
  rw [hA] at hc
  simp only [Nat.zero_mul, List.drop_zero, Nat.sub_zero] at hc
  refine WL.val rfl rfl hd (fun f hf => ?_) (kk hc)
  have hA' : (if c = 0 then A else A.map (·.add (0 * size))) = A := hA
  simp only [Nat.zero_mul] at hA'
  simp [execOp, hf.eval hx, hf.eval hh, Instr.sliceAt, Instr.slice, run_underlying ht, Instr.sliceBounds, run_sliceBound, hs, h1, (by omega : b ≤ c), hA']
/-- The same of bytes. -/
theorem WL.sliceLHB {A : Option Addr} {c m : Nat} {l : List UInt8} {lo hi : Operand} {kl kh : IntKind} {a b : Int} (ht : P.underlying t = some (.slice e)) (hs : ∀ w, (sizeOf e).run P w = .ok 1 w) (hx : ev ρ x = some (.slice A m c))
    (hl : ev ρ lo = some (.int kl a)) (hh : ev ρ hi = some (.int kh b)) (h : RdB w A c l) (hm : m = l.length) (h0 : 0 ≤ a) (h1 : a ≤ b) (h2 : b ≤ l.length) (hd : Nat.blt d n = true)
    (kk : ∀ A' (L : List UInt8), L = (l.drop a.toNat).take (b.toNat - a.toNat) → L.length = b.toNat - a.toNat → RdB w A' (c - a.toNat) L → X.S rest ((d, .slice A' L.length (c - a.toNat)) :: ρ) w) :
    X.S (⟨some d, .slice t x (some lo) (some hi) none, ty, pos, aft, none⟩ :: rest) ρ w := by
  subst hm
  have hL : ((l.drop a.toNat).take (b.toNat - a.toNat)).length = b.toNat - a.toNat := by simp; omega
  refine WL.sliceLH ht hs hx hl hh h h0 h1 h2 hd fun A' hA' => ?_
  have := kk A' _ rfl hL (by
    unfold RdB
    rw [hL, ← bs_take, ← bs_drop]
    simpa using hA')
  rwa [hL] at this
theorem WL.sliceLB {A : Option Addr} {c m : Nat} {l : List UInt8} {lo : Operand} {kl : IntKind} {a : Int} (ht : P.underlying t = some (.slice e)) (hs : ∀ w, (sizeOf e).run P w = .ok 1 w) (hx : ev ρ x = some (.slice A m c))
    (hl : ev ρ lo = some (.int kl a)) (h : RdB w A c l) (hm : m = l.length) (h0 : 0 ≤ a) (h2 : a ≤ l.length) (hd : Nat.blt d n = true)
    (kk : ∀ A' (L : List UInt8), L = l.drop a.toNat → L.length = l.length - a.toNat → RdB w A' (c - a.toNat) L → X.S rest ((d, .slice A' L.length (c - a.toNat)) :: ρ) w) :
    X.S (⟨some d, .slice t x (some lo) none none, ty, pos, aft, none⟩ :: rest) ρ w := by
  subst hm
  have hL : (l.drop a.toNat).length = l.length - a.toNat := by simp
  refine WL.sliceL ht hs hx hl h h0 h2 hd fun A' hA' => ?_
  have := kk A' _ rfl hL (by
    unfold RdB
    rw [hL, ← bs_drop]
    simpa using hA')
  rwa [hL] at this
theorem WL.sliceHB {A : Option Addr} {c m : Nat} {l : List UInt8} {hi : Operand} {kh : IntKind} {b : Int} (ht : P.underlying t = some (.slice e)) (hs : ∀ w, (sizeOf e).run P w = .ok 1 w) (hx : ev ρ x = some (.slice A m c))
    (hh : ev ρ hi = some (.int kh b)) (h : RdB w A c l) (hm : m = l.length) (h1 : 0 ≤ b) (h2 : b ≤ l.length) (hd : Nat.blt d n = true)
    (kk : ∀ (L : List UInt8), L = l.take b.toNat → L.length = b.toNat → RdB w A c L → X.S rest ((d, .slice A L.length c) :: ρ) w) :
    X.S (⟨some d, .slice t x none (some hi) none, ty, pos, aft, none⟩ :: rest) ρ w := by
  subst hm
  have hL : (l.take b.toNat).length = b.toNat := by simp; omega
  refine WL.sliceH ht hs hx hh h h1 h2 hd fun hA' => ?_
  have := kk _ rfl hL (by
    unfold RdB
    rw [hL, ← bs_take]
    simpa using hA')
  rwa [hL] at this
/-- 'x[:b]' up to the capacity: the value alone. -/
theorem WL.sliceUpTo {A : Option Addr} {c m size : Nat} {hi : Operand} {kh : IntKind} {b : Int} (ht : P.underlying t = some (.slice e)) (hs : ∀ w, (sizeOf e).run P w = .ok size w) (hx : ev ρ x = some (.slice A m c))
    (hh : ev ρ hi = some (.int kh b)) (h1 : 0 ≤ b) (h2 : b ≤ c) (hd : Nat.blt d n = true)
    (kk : X.S rest ((d, .slice A b.toNat c) :: ρ) w) :
    X.S (⟨some d, .slice t x none (some hi) none, ty, pos, aft, none⟩ :: rest) ρ w := by
  refine WL.val rfl rfl hd (fun f hf => ?_) kk
  have hA : (if c = 0 then A else A.map (·.add 0)) = A := by
    split
    · rfl
    · cases A <;> simp [Addr.add]
  simp [execOp, hf.eval hx, hf.eval hh, Instr.sliceAt, Instr.slice, run_underlying ht, Instr.sliceBounds, run_sliceBound, hs, h1, h2, hA]

/-- 'string(x)' of bytes. -/
theorem WL.toStr {A : Option Addr} {c m : Nat} {l : List UInt8} {src dst : TypeId} (hs : P.underlying src = some (.slice e)) (he : P.underlying e = some (.int .u8)) (ht : P.underlying dst = some .string) (hx : ev ρ x = some (.slice A m c))
    (h : RdB w A c l) (hm : m = l.length) (hd : Nat.blt d n = true) (kk : X.S rest ((d, str l) :: ρ) w) :
    X.S (⟨some d, .convert src dst x, ty, pos, aft, none⟩ :: rest) ρ w := by
  subst hm
  refine WL.val rfl rfl hd (fun f hf => ?_) kk
  have key : (convert src dst (.slice A l.length c)).run P w = .ok (str l) w := by
    rw [run_convert_bytes_string w src dst e A _ c hs he ht]
    by_cases hl : 0 < l.length
    · obtain ⟨ad, rfl, _, hc⟩ := h.at_ hl
      have hld := run_loadCells_list (P := P) w ad (bs l) hc
      rw [bs_length] at hld
      have e1 : bs l = (l.map fun u => ((u.toNat : Nat) : Int)).map (Value.int .u8) := by simp [bs, bv]
      rw [e1] at hld
      rw [run_bytesToString w ad _ c _ hld, foldl_push_bytes]
      have e2 : ((l.map fun u => ((u.toNat : Nat) : Int)).map fun n => UInt8.ofNat n.toNat) = l := by
        rw [List.map_map]
        conv => rhs; rw [← List.map_id l]
        exact List.map_congr_left fun u _ => by simp
      rw [e2]
      simp [str, ByteArray.empty, ByteArray.emptyWithCapacity]
      rfl
    · have : l = [] := List.eq_nil_of_length_eq_zero (by omega)
      subst this
      have hne : ∀ A : Option Addr, (Conv.bytesToString (.slice A ([] : List UInt8).length c)).run P w = .ok (str []) w := by
        intro A
        cases A with
        | none => rfl
        | some ad =>
          have hld := run_loadCells_list (P := P) w ad [] (fun j v hv => by simp at hv)
          have := run_bytesToString (P := P) w ad 0 c [] (by simpa using hld)
          simp only [List.foldl_nil] at this
          exact this
      exact hne A
  simp [execOp, hf.eval hx, key]
end
end Go.Proofs.Ytkdkdaljgoibaaa
