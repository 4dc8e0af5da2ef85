/-
  What stands in memory, found by search: membership, replacement, taking out, picking; stars of many. Generic in the program.
-/
import Derived.Test.YtkdkdaljgoibaaaStruct
import Derived.Test.YtkdkdaljgoibaaaOrd
namespace Go.Proofs.Ytkdkdaljgoibaaa
open Go Go.RowKit

inductive Has (A : Asr) : List Asr → Prop
  | here {L : List Asr} : Has A (A :: L)
  | there {B : Asr} {L : List Asr} : Has A L → Has A (B :: L)
inductive Upd (A B : Asr) : List Asr → List Asr → Prop
  | here {L : List Asr} : Upd A B (A :: L) (B :: L)
  | there {C : Asr} {L L' : List Asr} : Upd A B L L' → Upd A B (C :: L) (C :: L')
inductive Del (A : Asr) : List Asr → List Asr → Prop
  | here {L : List Asr} : Del A (A :: L) L
  | there {C : Asr} {L L' : List Asr} : Del A L L' → Del A (C :: L) (C :: L')
/-- K is picked out of L. -/
inductive Sel : List Asr → List Asr → Prop
  | refl {L : List Asr} : Sel L L
  | nil {L : List Asr} : Sel L []
  | cons {A : Asr} {L L1 K : List Asr} : Del A L L1 → Sel L1 K → Sel L (A :: K)
  | drop {A : Asr} {L K : List Asr} : Sel L K → Sel (A :: L) K

theorem Del.perm {A : Asr} {L L' : List Asr} (h : Del A L L') : L.Perm (A :: L') := by
  induction h with
  | here => exact List.Perm.refl _
  | there _ ih => exact (List.Perm.cons _ ih).trans (List.Perm.swap ..)
theorem Has.del {A : Asr} {L : List Asr} (h : Has A L) : ∃ L', Del A L L' := by
  induction h with
  | here => exact ⟨_, .here⟩
  | there _ ih => obtain ⟨L', h⟩ := ih; exact ⟨_, .there h⟩
theorem Upd.perm {A B : Asr} {L L' : List Asr} (h : Upd A B L L') : ∃ K, L.Perm (A :: K) ∧ L'.Perm (B :: K) := by
  induction h with
  | here => exact ⟨_, List.Perm.refl _, List.Perm.refl _⟩
  | there _ ih => obtain ⟨K, h1, h2⟩ := ih; exact ⟨_, (List.Perm.cons _ h1).trans (List.Perm.swap ..), (List.Perm.cons _ h2).trans (List.Perm.swap ..)⟩

section
variable {w0 w w' : World} {L L' K : List Asr} {A B : Asr}
theorem Mem.del (M : Mem w0 w L) (h : Del A L L') : Mem w0 w (A :: L') := M.perm h.perm
theorem Mem.has (M : Mem w0 w L) (h : Has A L) : A.holds w := by obtain ⟨L', h⟩ := h.del; exact (M.del h).head
theorem Mem.sel (M : Mem w0 w L) (h : Sel L K) : Mem w0 w K := by
  have key : ∀ {L K : List Asr}, Sel L K → ∃ R, L.Perm (K ++ R) := by
    intro L K h
    induction h with
    | refl => exact ⟨[], by simp⟩
    | nil => exact ⟨_, List.Perm.refl _⟩
    | cons hd _ ih => obtain ⟨R, h⟩ := ih; exact ⟨R, hd.perm.trans (List.Perm.cons _ h)⟩
    | drop _ ih => obtain ⟨R, h⟩ := ih; exact ⟨_ :: R, (List.Perm.cons _ h).trans (by simpa using (List.perm_middle (l₁ := _) (l₂ := R)).symm)⟩
  obtain ⟨R, h⟩ := key h
  have M1 := M.perm h
  refine ⟨M1.base, ?_, fun C hC => M1.new C (List.mem_append_left _ hC)⟩
  have : ∀ (K : List Asr), Sep (K ++ R) w → Sep K w := by
    intro K
    induction K with
    | nil => intro _; trivial
    | cons C K ih => intro h; exact ⟨h.1, fun D hD => h.2.1 D (List.mem_append_left _ hD), ih h.2.2⟩
  exact this K M1.sep
theorem Mem.upd (M : Mem w0 w L) (h : Upd A B L L') (f : ∀ K, Mem w0 w (A :: K) → Mem w0 w' (B :: K)) : Mem w0 w' L' := by
  obtain ⟨K, h1, h2⟩ := h.perm
  exact (f K (M.perm h1)).perm h2.symm
theorem Mem.call0 (M : Mem w0 w L) (h : Mem w w' []) : Mem w0 w' L := M.call h
theorem Mem.call1 (M : Mem w0 w L) (h : Mem w w' [A]) : Mem w0 w' (A :: L) := M.call h
theorem Mem.call2 (M : Mem w0 w L) (h : Mem w w' [A, B]) : Mem w0 w' (A :: B :: L) := M.call h
theorem Mem.call3 {C : Asr} (M : Mem w0 w L) (h : Mem w w' [A, B, C]) : Mem w0 w' (A :: B :: C :: L) := M.call h
theorem Mem.callN (M : Mem w0 w L) (h : Mem w w' K) : Mem w0 w' (K ++ L) := M.call h
end

/-- Many, as one. -/
def Asr.star (K : List Asr) : Asr where
  foot := fun g => ∃ A ∈ K, A.foot g
  holds := fun w => Sep K w
  bound := fun _ h g ⟨A, hA, hg⟩ => h.bound A hA g hg
  stays := fun _ _ hk h => h.stays fun A hA g hg => hk g ⟨A, hA, hg⟩

section
variable {w0 w : World} {L K : List Asr}
theorem Mem.star (M : Mem w0 w (K ++ L)) : Mem w0 w (Asr.star K :: L) := by
  have hs : ∀ (K : List Asr), Sep (K ++ L) w → Sep K w ∧ Sep L w ∧ (∀ A ∈ K, ∀ B ∈ L, ∀ g, A.foot g → ¬ B.foot g) := by
    intro K
    induction K with
    | nil => intro h; exact ⟨trivial, h, fun A hA => by cases hA⟩
    | cons C K ih =>
      intro h
      obtain ⟨h1, h2, h3⟩ := ih h.2.2
      refine ⟨⟨h.1, fun D hD => h.2.1 D (List.mem_append_left _ hD), h1⟩, h2, fun A hA B hB => ?_⟩
      rcases List.mem_cons.1 hA with rfl | hA
      · exact h.2.1 B (List.mem_append_right _ hB)
      · exact h3 A hA B hB
  obtain ⟨h1, h2, h3⟩ := hs K M.sep
  refine ⟨M.base, ⟨h1, fun B hB g ⟨A, hA, hg⟩ => h3 A hA B hB g hg, h2⟩, fun B hB g hg => ?_⟩
  rcases List.mem_cons.1 hB with rfl | hB
  · obtain ⟨A, hA, hg⟩ := hg
    exact M.new A (List.mem_append_left _ hA) g hg
  · exact M.new B (List.mem_append_right _ hB) g hg
theorem Mem.unstar (M : Mem w0 w (Asr.star K :: L)) : Mem w0 w (K ++ L) := by
  refine ⟨M.base, ?_, fun B hB g hg => ?_⟩
  · exact Sep.append M.sep.1 M.sep.2.2 fun A hA B hB g hg => M.sep.2.1 B hB g ⟨A, hA, hg⟩
  · rcases List.mem_append.1 hB with hB | hB
    · exact M.new _ (List.mem_cons_self ..) g ⟨B, hB, hg⟩
    · exact M.new B (List.mem_cons_of_mem _ hB) g hg
theorem Mem.starNil (M : Mem w0 w L) : Mem w0 w (Asr.star [] :: L) := Mem.star (K := []) M
theorem Mem.starPerm {K' : List Asr} (M : Mem w0 w (Asr.star K :: L)) (h : K.Perm K') : Mem w0 w (Asr.star K' :: L) := (M.unstar.perm (h.append_right L)).star
theorem Mem.starSnoc {A : Asr} (M : Mem w0 w (A :: Asr.star K :: L)) : Mem w0 w (Asr.star (K ++ [A]) :: L) := by
  have h := M.f1.unstar
  refine Mem.star ?_
  rw [List.append_assoc]
  exact h
theorem Mem.starCons {A : Asr} (M : Mem w0 w (A :: Asr.star K :: L)) : Mem w0 w (Asr.star (A :: K) :: L) := M.starSnoc.starPerm (by simp)
theorem Mem.unstarCons {A : Asr} (M : Mem w0 w (Asr.star (A :: K) :: L)) : Mem w0 w (A :: Asr.star K :: L) := by
  have h : Mem w0 w (A :: (K ++ L)) := M.unstar
  have h1 : Mem w0 w (K ++ (A :: L)) := h.perm (by simpa using (List.perm_middle (a := A) (l₁ := K) (l₂ := L)).symm)
  exact h1.star.f1
theorem Mem.starApp {K' : List Asr} (M : Mem w0 w (Asr.star K :: Asr.star K' :: L)) : Mem w0 w (Asr.star (K ++ K') :: L) := by
  have h := M.unstar
  have h1 : Mem w0 w (Asr.star K' :: (K ++ L)) := h.perm List.perm_middle
  have h2 := h1.unstar
  refine Mem.star (h2.perm ?_)
  rw [List.append_assoc]
  simpa using (List.perm_append_comm_assoc K' K L)
end

section
variable {w0 w : World} {L K K' : List Asr} {A B C D : Asr}
theorem Mem.unstarApp (M : Mem w0 w (Asr.star (K ++ K') :: L)) : Mem w0 w (Asr.star K :: Asr.star K' :: L) := by
  have h : Mem w0 w (K ++ (K' ++ L)) := by have := M.unstar; rwa [List.append_assoc] at this
  have h1 : Mem w0 w (Asr.star K' :: (K ++ L)) := Mem.star (h.perm (List.perm_append_comm_assoc K K' L))
  have h2 : Mem w0 w (K ++ (Asr.star K' :: L)) := h1.perm (List.perm_middle (a := Asr.star K') (l₁ := K) (l₂ := L)).symm
  exact h2.star
theorem Mem.starDrop (M : Mem w0 w (Asr.star (K ++ K') :: L)) : Mem w0 w (Asr.star K' :: L) := M.unstarApp.tail
theorem Mem.unstar1 (M : Mem w0 w (Asr.star [A] :: L)) : Mem w0 w (A :: L) := M.unstar
theorem Mem.star1 (M : Mem w0 w (A :: L)) : Mem w0 w (Asr.star [A] :: L) := Mem.star M
theorem Mem.unstar2 (M : Mem w0 w (Asr.star [A, B] :: L)) : Mem w0 w (A :: B :: L) := M.unstar
theorem Mem.star2 (M : Mem w0 w (A :: B :: L)) : Mem w0 w (Asr.star [A, B] :: L) := Mem.star (K := [A, B]) M
theorem Mem.unstar3 (M : Mem w0 w (Asr.star [A, B, C] :: L)) : Mem w0 w (A :: B :: C :: L) := M.unstar
theorem Mem.star3 (M : Mem w0 w (A :: B :: C :: L)) : Mem w0 w (Asr.star [A, B, C] :: L) := Mem.star (K := [A, B, C]) M
theorem Mem.unstar4 (M : Mem w0 w (Asr.star [A, B, C, D] :: L)) : Mem w0 w (A :: B :: C :: D :: L) := M.unstar
theorem Mem.star4 (M : Mem w0 w (A :: B :: C :: D :: L)) : Mem w0 w (Asr.star [A, B, C, D] :: L) := Mem.star (K := [A, B, C, D]) M
theorem Mem.starHas {α : Type} {f : α → Asr} {l : List α} (M : Mem w0 w L) (h : Has (Asr.star (l.map f)) L) {x : α} (hx : x ∈ l) : (f x).holds w := by
  have hs : Sep (l.map f) w := M.has h
  exact Sep.mem hs (f x) (List.mem_map_of_mem hx)
end

/-! ### addresses, written out -/

def cutA (A : Option Addr) (l size c : Nat) : Option Addr := if c = l then A else A.map (·.add (l * size))
/-- k cells on from where A lies. -/
def atA (A : Option Addr) (k : Nat) : Addr := (A.getD default).add k
theorem atA_some (a : Addr) (k : Nat) : atA (some a) k = a.add k := rfl
theorem atA_lit (g o k : Nat) : atA (some ⟨g, o, none⟩) k = ⟨g, o + k, none⟩ := by rw [atA_some, add_lit]
theorem atA_add (A : Option Addr) (k o : Nat) : (atA A k).add o = atA A (k + o) := add_add ..

section
variable {w : World} {A : Option Addr} {n c size : Nat} {vs : List Value}
theorem Rd.cellAt (h : Rd w A n c size vs) {k : Nat} {v : Value} (hv : vs[k]? = some v) : w.cell? (atA A k) = some v := by
  have hk := (List.getElem?_eq_some_iff.1 hv).1
  have hl := h.len
  obtain ⟨ad, rfl, _, hc⟩ := h.at_ (Nat.pos_of_ne_zero fun h0 => by rw [h0, Nat.zero_mul] at hl; omega)
  exact hc k v hv
theorem Rd.isSome (h : Rd w A n c size vs) (hn : 0 < n) : A.isSome = true := by obtain ⟨ad, rfl, _⟩ := h.at_ hn; rfl
theorem Rd.cutAt (h : Rd w A n c size vs) {l m : Nat} (hlm : l ≤ m) (hm : m ≤ n) : Rd w (cutA A l size c) (m - l) (c - l) size ((vs.drop (l * size)).take ((m - l) * size)) := h.cut hlm hm
end

/-! ### lists of things -/

/-- How a thing lies in cells. -/
structure Enc (α : Type) where
  e : TypeId
  size : Nat
  cells : α → List Value
  len : ∀ a, (cells a).length = size
  one : ∀ a, ∀ v ∈ cells a, v.oneCell' = true
  pos : 0 < size

def Enc.all {α : Type} (E : Enc α) (l : List α) : List Value := l.flatMap E.cells
def el {α : Type} [Inhabited α] (l : List α) (k : Nat) : α := l[k]?.getD default

section
variable {α : Type} (E : Enc α)
theorem Enc.all_length (l : List α) : (E.all l).length = l.length * E.size := by
  unfold Enc.all
  induction l with
  | nil => simp
  | cons x l ih => rw [List.flatMap_cons, List.length_append, ih, E.len, List.length_cons, Nat.add_mul]; omega
theorem Enc.all_append (l m : List α) : E.all (l ++ m) = E.all l ++ E.all m := by simp [Enc.all]
theorem Enc.all_one (l : List α) : ∀ v ∈ E.all l, v.oneCell' = true := by
  intro v hv
  obtain ⟨a, _, h⟩ := List.mem_flatMap.1 hv
  exact E.one a v h
theorem Enc.all_drop (l : List α) (k : Nat) : (E.all l).drop (k * E.size) = E.all (l.drop k) := by
  induction k generalizing l with
  | zero => simp
  | succ k ih =>
    cases l with
    | nil => simp [Enc.all]
    | cons x l =>
      have : E.all (x :: l) = E.cells x ++ E.all l := rfl
      rw [this, List.drop_append, List.drop_eq_nil_of_le (by rw [E.len, Nat.add_mul]; omega), List.nil_append, E.len, show (k + 1) * E.size - E.size = k * E.size by rw [Nat.add_mul]; omega, ih]
      rfl
theorem Enc.all_take (l : List α) (k : Nat) : (E.all l).take (k * E.size) = E.all (l.take k) := by
  induction k generalizing l with
  | zero => simp [Enc.all]
  | succ k ih =>
    cases l with
    | nil => simp [Enc.all]
    | cons x l =>
      have : E.all (x :: l) = E.cells x ++ E.all l := rfl
      rw [this, List.take_append, List.take_of_length_le (by rw [E.len, Nat.add_mul]; omega), E.len, show (k + 1) * E.size - E.size = k * E.size by rw [Nat.add_mul]; omega, ih]
      rfl
theorem Enc.all_get [Inhabited α] (l : List α) (k o : Nat) (hk : k < l.length) (ho : o < E.size) : (E.all l)[k * E.size + o]? = (E.cells (el l k))[o]? := by
  rw [← List.getElem?_drop, E.all_drop]
  have h1 : l.drop k = el l k :: l.drop (k + 1) := by
    rw [List.drop_eq_getElem_cons hk]
    simp [el, hk]
  rw [h1]
  show (E.cells (el l k) ++ E.all (l.drop (k + 1)))[o]? = _
  rw [List.getElem?_append_left (by rw [E.len]; exact ho)]
theorem Enc.all_set (l : List α) (k : Nat) (x : α) (hk : k < l.length) : E.all (l.set k x) = (E.all l).take (k * E.size) ++ E.cells x ++ (E.all l).drop ((k + 1) * E.size) := by
  rw [E.all_take, E.all_drop, List.set_eq_take_append_cons_drop, if_pos hk]
  simp [Enc.all]
theorem Enc.all_setCell [Inhabited α] (l : List α) (k o : Nat) (x : α) (v : Value) (hk : k < l.length) (ho : o < E.size) (hx : E.cells x = (E.cells (el l k)).set o v) :
    (E.all l).set (k * E.size + o) v = E.all (l.set k x) := by
  have hlen : (E.all (l.take k)).length = k * E.size := by rw [E.all_length, List.length_take, Nat.min_eq_left (by omega)]
  have h1 : E.all l = E.all (l.take k) ++ (E.cells (el l k) ++ E.all (l.drop (k + 1))) := by
    have h2 : l = l.take k ++ (el l k :: l.drop (k + 1)) := by
      conv => lhs; rw [← List.take_append_drop k l]
      rw [List.drop_eq_getElem_cons hk]
      simp [el, hk]
    conv => lhs; rw [h2]
    rw [E.all_append]
    rfl
  have h3 : E.all (l.set k x) = E.all (l.take k) ++ (E.cells x ++ E.all (l.drop (k + 1))) := by
    rw [List.set_eq_take_append_cons_drop, if_pos hk, E.all_append]
    rfl
  rw [h3, h1, hx, List.set_append, if_neg (by omega), hlen, show k * E.size + o - k * E.size = o by omega, List.set_append, if_pos (by rw [E.len]; exact ho)]
end

theorem el_set {α : Type} [Inhabited α] (l : List α) (k j : Nat) (x : α) (hk : k < l.length) : el (l.set k x) j = if k = j then x else el l j := by
  unfold el
  rw [List.getElem?_set]
  by_cases h : k = j
  · subst h; simp [hk]
  · simp [h]
theorem el_get {α : Type} [Inhabited α] {l : List α} {k : Nat} (hk : k < l.length) : l[k]? = some (el l k) := by simp [el, hk]
theorem el_mem {α : Type} [Inhabited α] {l : List α} {k : Nat} (hk : k < l.length) : el l k ∈ l := List.mem_of_getElem? (el_get hk)
theorem el_append_left {α : Type} [Inhabited α] {l m : List α} {k : Nat} (hk : k < l.length) : el (l ++ m) k = el l k := by unfold el; rw [List.getElem?_append_left hk]
theorem el_append_right {α : Type} [Inhabited α] {l m : List α} {k : Nat} (hk : l.length ≤ k) : el (l ++ m) k = el m (k - l.length) := by unfold el; rw [List.getElem?_append_right hk]

/-- A slice over things, its only owner. -/
def Asr.lst {α : Type} (E : Enc α) (A : Option Addr) (cap : Nat) (l : List α) : Asr := Asr.own E.e E.size A l.length cap (E.all l)
/-- A slice over things can be read. -/
def RdL {α : Type} (w : World) (E : Enc α) (A : Option Addr) (cap : Nat) (l : List α) : Prop := Rd w A l.length cap E.size (E.all l)

section
variable {α : Type} {E : Enc α} {w0 w w' : World} {A : Option Addr} {cap : Nat} {l : List α} {L L' : List Asr}
theorem RdL.mem (h : RdL w E A cap l) (M : Mem w w' L) : RdL w' E A cap l := Rd.mem h M
theorem Mem.rdO {e : TypeId} {size n : Nat} {vs : List Value} (M : Mem w0 w L) (h : Has (Asr.own e size A n cap vs) L) : Rd w A n cap size vs := ownRd (M.has h)
theorem Mem.rdL (M : Mem w0 w L) (h : Has (Asr.lst E A cap l) L) : RdL w E A cap l := ownRd (M.has h)
theorem Mem.rdB {e : TypeId} {l : List UInt8} (M : Mem w0 w L) (h : Has (Asr.own e 1 A l.length cap (bs l)) L) : RdB w A cap l := ownRd (M.has h)
theorem Mem.rdLit' {g : Nat} {e : TypeId} {l : List UInt8} (M : Mem w0 w L) (h : Has (Asr.obj g (.cells (bs l).toArray e (l.length, l.length + 1))) L) : RdB w (some ⟨g, 0, none⟩) l.length l := by
  obtain ⟨L', h⟩ := h.del
  have hg : w.heap[g]? = some (.cells (bs l).toArray e (l.length, l.length + 1)) := (M.del h).head
  refine ⟨by simp [bs], Nat.le_refl _, fun _ => ⟨_, rfl, (Array.getElem?_eq_some_iff.1 hg).1, fun j v hv => ?_⟩⟩
  rw [add_lit, Nat.zero_add, cell_of_row w g j _ e _ hg]
  simpa using hv
theorem Mem.cellH {g : Nat} {t : TypeId} {cs : List Value} (M : Mem w0 w L) (h : Has (Asr.row g t cs) L) (i : Nat) : w.cell? ⟨g, i, none⟩ = cs[i]? := by
  obtain ⟨L', h⟩ := h.del
  exact (M.del h).cell i
theorem Mem.cellsH {g : Nat} {t : TypeId} {cs : List Value} (M : Mem w0 w L) (h : Has (Asr.row g t cs) L) : ∀ j v, cs[j]? = some v → w.cell? ((⟨g, 0, none⟩ : Addr).add j) = some v := fun j v hj => by
  rw [add_lit, Nat.zero_add, M.cellH h, hj]
theorem RdL.cell [Inhabited α] (h : RdL w E A cap l) {k o : Nat} {v : Value} (hk : k < l.length) (hv : (E.cells (el l k))[o]? = some v) : w.cell? (atA A (k * E.size + o)) = some v := by
  refine Rd.cellAt h ?_
  rw [E.all_get l k o hk (by have := (List.getElem?_eq_some_iff.1 hv).1; rw [E.len] at this; exact this), hv]
theorem RdL.cutAt (h : RdL w E A cap l) {i j : Nat} (hij : i ≤ j) (hj : j ≤ l.length) : RdL w E (cutA A i E.size cap) (cap - i) ((l.drop i).take (j - i)) := by
  have h1 := Rd.cutAt h hij hj
  have e : ((l.drop i).take (j - i)).length = j - i := by simp; omega
  unfold RdL
  rw [e, ← E.all_take, ← E.all_drop]
  exact h1
theorem RdL.pre (h : RdL w E A cap l) {j : Nat} (hj : j ≤ l.length) : RdL w E A cap (l.take j) := by
  have h1 := h.cutAt (Nat.zero_le j) hj
  have e : cutA A 0 E.size cap = A := by
    unfold cutA
    split
    · rfl
    · cases A <;> simp [Addr.add]
  rw [e, Nat.sub_zero, List.drop_zero, Nat.sub_zero] at h1
  exact h1
theorem RdL.suf (h : RdL w E A cap l) {i : Nat} (hi : i ≤ l.length) : RdL w E (cutA A i E.size cap) (cap - i) (l.drop i) := by
  have h1 := h.cutAt hi (Nat.le_refl _)
  rwa [List.take_of_length_le (by rw [List.length_drop]; omega)] at h1
theorem RdL.nil (w : World) (E : Enc α) (c : Nat) : RdL w E none c [] := Rd.nil w c _
end

/-- What a list of things is after a change of one cell. -/
inductive SetAt (v : Value) : List Value → Nat → List Value → Prop
  | zero {x : Value} {cs : List Value} : SetAt v (x :: cs) 0 (v :: cs)
  | succ {x : Value} {cs cs' : List Value} {o : Nat} : SetAt v cs o cs' → SetAt v (x :: cs) (o + 1) (x :: cs')
theorem SetAt.eq {v : Value} {cs cs' : List Value} {o : Nat} (h : SetAt v cs o cs') : cs.set o v = cs' := by
  induction h with
  | zero => rfl
  | succ _ ih => rw [List.set_cons_succ, ih]
theorem SetAt.lt {v : Value} {cs cs' : List Value} {o : Nat} (h : SetAt v cs o cs') : o < cs.length := by
  induction h with
  | zero => simp
  | succ _ ih => rw [List.length_cons]; omega
end Go.Proofs.Ytkdkdaljgoibaaa
