/-
  Law: jobs in one list, in the order in which they came (seawallref21), are the flows' jobs.
-/
import Derived.Test.YtdhmopmfnnlhcaaDrrLaw2
namespace Go.Proofs.Ytdhmopmfnnlhcaa
open Go Go.RowKit

/-- The first one of a flow in a list. -/
def FirstOf (l : List JX) (z : Int) (r : Int) : Prop :=
  (r = -1 ∧ ∀ i, i < l.length → (el l i).flow ≠ z) ∨ (∃ i : Nat, r = (i : Int) ∧ i < l.length ∧ (el l i).flow = z ∧ ∀ k, k < i → (el l k).flow ≠ z)
def ofF (l : List JX) (z : Int) : List JX := l.filter fun j => decide (j.flow = z)
theorem ofF_none {l : List JX} {z : Int} (h : ∀ i, i < l.length → (el l i).flow ≠ z) : ofF l z = [] := by
  unfold ofF
  rw [List.filter_eq_nil_iff]
  intro j hj
  obtain ⟨i, hi, rfl⟩ := List.getElem_of_mem hj
  have := h i hi
  simpa [el, hi] using this
theorem el_split {l : List JX} {i : Nat} (hi : i < l.length) : l = l.take i ++ el l i :: l.drop (i + 1) := by
  have e : el l i = l[i] := by simp [el, hi]
  rw [e, ← List.drop_eq_getElem_cons hi, List.take_append_drop]
theorem el_take {l : List JX} {i k : Nat} (hk : k < i) : el (l.take i) k = el l k := by
  unfold el
  rw [List.getElem?_take_of_lt hk]
theorem erase_split {l : List JX} {i : Nat} : l.eraseIdx i = l.take i ++ l.drop (i + 1) := List.eraseIdx_eq_take_drop_succ l i
theorem ofF_first {l : List JX} {z : Int} {i : Nat} (hi : i < l.length) (hz : (el l i).flow = z) (hf : ∀ k, k < i → (el l k).flow ≠ z) : ofF l z = el l i :: ofF (l.eraseIdx i) z := by
  have h0 : ofF (l.take i) z = [] := ofF_none fun k hk => by
    rw [List.length_take] at hk
    rw [el_take (by omega)]
    exact hf k (by omega)
  conv => lhs; rw [el_split hi]
  rw [erase_split]
  unfold ofF at h0 ⊢
  rw [List.filter_append, List.filter_append, h0, List.filter_cons, if_pos (by simpa using hz)]
  rfl
theorem ofF_other {l : List JX} {z : Int} {i : Nat} (hi : i < l.length) (hz : (el l i).flow ≠ z) : ofF l z = ofF (l.eraseIdx i) z := by
  conv => lhs; rw [el_split hi]
  rw [erase_split]
  unfold ofF
  rw [List.filter_append, List.filter_append, List.filter_cons, if_neg (by simpa using hz)]
theorem FirstOf.is {l : List JX} {z r : Int} (h : FirstOf l z r) : (r < 0 ↔ ofF l z = []) ∧ (ofF l z ≠ [] → ∃ i : Nat, r = (i : Int) ∧ i < l.length ∧ (el l i).flow = z ∧ ofF l z = el l i :: ofF (l.eraseIdx i) z) := by
  rcases h with ⟨rfl, h⟩ | ⟨i, rfl, hi, hz, hf⟩
  · exact ⟨⟨fun _ => ofF_none h, fun _ => by omega⟩, fun hn => absurd (ofF_none h) hn⟩
  · have e := ofF_first hi hz hf
    refine ⟨⟨fun h => by omega, fun h => by rw [h] at e; cases e⟩, fun _ => ⟨i, rfl, hi, hz, e⟩⟩

theorem take_snoc {α : Type} [Inhabited α] {l : List α} {i : Nat} (h : i < l.length) : l.take (i + 1) = l.take i ++ [el l i] := by
  have e : el l i = l[i] := by simp [el, h]
  rw [e, List.take_succ_eq_append_getElem h]

/-- A list of jobs is what the flows have. -/
structure LFl (l : List JX) (fl : List Fl) : Prop where
  len : l.length = nJ fl
  inn : ∀ j ∈ l, ∃ k, k < fl.length ∧ j.flow = (k : Int)
  jobs : ∀ k, k < fl.length → ofF l (k : Int) = (el fl k).jobs
theorem LFl.same {l : List JX} {fl fl' : List Fl} (h : LFl l fl) (hl : fl'.length = fl.length) (hj : ∀ k, (el fl' k).jobs = (el fl k).jobs) (hn : nJ fl' = nJ fl) : LFl l fl' :=
  ⟨h.len.trans hn.symm, fun j hm => by rw [hl]; exact h.inn j hm, fun k hk => by rw [hj]; exact h.jobs k (by omega)⟩
theorem LFl.push {l : List JX} {fl : List Fl} (h : LFl l fl) {j : JX} {k : Nat} (hf : j.flow = (k : Int)) (hk : k < fl.length) {f : Fl} (hs : f.jobs = (el fl k).jobs ++ [j]) : LFl (l ++ [j]) (fl.set k f) := by
  have e := nJ_set fl k f hk
  rw [hs, List.length_append, List.length_singleton] at e
  refine ⟨by rw [List.length_append, List.length_singleton, h.len]; omega, fun i hi => ?_, fun m hm => ?_⟩
  · rw [List.length_set]
    rcases List.mem_append.1 hi with hi | hi
    · exact h.inn i hi
    · rw [List.mem_singleton] at hi
      subst hi
      exact ⟨k, hk, hf⟩
  · rw [List.length_set] at hm
    have q := h.jobs m hm
    rw [el_set _ _ _ _ hk]
    unfold ofF at q ⊢
    rw [List.filter_append, q]
    split
    · rename_i e2
      subst e2
      rw [List.filter_cons, if_pos (by simpa using hf), hs]
      rfl
    · rename_i e2
      rw [List.filter_cons, if_neg (by rw [hf]; simp; omega)]
      simp
theorem LFl.pop {l : List JX} {fl : List Fl} (h : LFl l fl) {i k : Nat} {js : List JX} (hi : i < l.length) (hk : k < fl.length) (hz : (el l i).flow = (k : Int)) (hf : ofF l (k : Int) = el l i :: ofF (l.eraseIdx i) (k : Int)) {f : Fl} (hj : (el fl k).jobs = el l i :: js) (hs : f.jobs = js) : LFl (l.eraseIdx i) (fl.set k f) := by
  have e := nJ_set fl k f hk
  rw [hj, hs] at e
  have e2 := h.len
  rw [List.length_cons] at e
  refine ⟨by rw [List.length_eraseIdx, if_pos hi]; omega, fun j hm => ?_, fun m hm => ?_⟩
  · rw [List.length_set]
    exact h.inn j (List.mem_of_mem_eraseIdx hm)
  · rw [List.length_set] at hm
    have q := h.jobs m hm
    rw [el_set _ _ _ _ hk]
    split
    · rename_i e3
      subst e3
      rw [hf, hj] at q
      rw [hs]
      exact (List.cons.inj q).2
    · rename_i e3
      rw [← q]
      exact (ofF_other hi (by rw [hz]; omega)).symm
theorem el_mapS (f : Fl → Int) {fl : List Fl} {k : Nat} (hk : k < fl.length) : el (fl.map f) k = f (el fl k) := by simp [el, hk]
theorem map_setS (f : Fl → Int) {fl : List Fl} {k : Nat} {x : Fl} : (fl.set k x).map f = (fl.map f).set k (f x) := List.map_set
theorem map_setSame (f : Fl → Int) {fl : List Fl} {k : Nat} {x : Fl} (hk : k < fl.length) (h : f x = f (el fl k)) : (fl.set k x).map f = fl.map f := by
  rw [List.map_set, h]
  have e : f (el fl k) = (fl.map f)[k]'(by simpa using hk) := by simp [el, hk]
  rw [e, List.set_getElem_self]
end Go.Proofs.Ytdhmopmfnnlhcaa
