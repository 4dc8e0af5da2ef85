/-
  Law: sets of bits, a view's states (beat).
-/
import Derived.Test.YtkdkdaljgoibaaaBits
namespace Go.Proofs.Ytkdkdaljgoibaaa
open Go Go.RowKit

/-- A set's number. -/
def bitsN : List Bool → Nat
  | [] => 0
  | b :: l => (if b then 1 else 0) + 2 * bitsN l
theorem bitsN_cons (b : Bool) (l : List Bool) : bitsN (b :: l) = (if b then 1 else 0) + 2 * bitsN l := rfl
theorem bitsN_lt : ∀ (l : List Bool), bitsN l < 2 ^ l.length
  | [] => by simp [bitsN]
  | b :: l => by
    have := bitsN_lt l
    rw [bitsN_cons]
    rw [List.length_cons, Nat.pow_succ]
    split <;> omega
theorem bitsN_snoc : ∀ (l : List Bool) (b : Bool), bitsN (l ++ [b]) = bitsN l + if b then 2 ^ l.length else 0
  | [], b => by
    simp [bitsN]
  | c :: l, b => by
    rw [List.cons_append, bitsN_cons, bitsN_cons, bitsN_snoc l b, List.length_cons, Nat.pow_succ]
    by_cases hb : b = true
    · rw [if_pos hb, if_pos hb]
      omega
    · rw [if_neg hb, if_neg hb]
      omega
theorem bitsN_bit : ∀ (l : List Bool) (i : Nat), bitsN l / 2 ^ i % 2 = if l[i]? = some true then 1 else 0
  | [], i => by simp [bitsN]
  | b :: l, 0 => by
    rw [bitsN_cons]
    cases b <;> simp <;> omega
  | b :: l, i + 1 => by
    have e : bitsN (b :: l) / 2 ^ (i + 1) = bitsN l / 2 ^ i := by
      rw [bitsN_cons, Nat.pow_succ, Nat.mul_comm (2 ^ i) 2, ← Nat.div_div_eq_div_mul]
      congr 1
      split <;> omega
    rw [e, bitsN_bit l i, List.getElem?_cons_succ]
theorem bits_ext : ∀ {l m : List Bool}, l.length = m.length → bitsN l = bitsN m → l = m
  | [], [], _, _ => rfl
  | [], _ :: _, h, _ => absurd h (by simp)
  | _ :: _, [], h, _ => absurd h (by simp)
  | a :: l, b :: m, h, e => by
    rw [bitsN_cons, bitsN_cons] at e
    have h1 : bitsN l = bitsN m := by split at e <;> split at e <;> omega
    have h2 : a = b := by
      cases a <;> cases b <;> simp at e ⊢ <;> omega
    rw [h2, bits_ext (by simpa using h) h1]
/-- A view. -/
structure Bv where
  sites : List Int
  me : Nat
  pat : Int
  since : List Int
  calm : Int
structure Bv.Ok (s : Bv) : Prop where
  n : 1 ≤ s.sites.length ∧ s.sites.length ≤ 12
  len : s.since.length = s.sites.length
  me : s.me < s.sites.length
  mine : el s.since s.me = 0
  pat : 1 ≤ s.pat ∧ s.pat ≤ 1000
  since : ∀ j, j < s.since.length → 0 ≤ el s.since j ∧ el s.since j ≤ s.pat
  sites : ∀ j, j < s.sites.length → 0 ≤ el s.sites j ∧ el s.sites j < 12
  calm : 0 ≤ s.calm ∧ s.calm ≤ 1000
def upB (s : Bv) : List Bool := s.since.map fun z => decide (z < s.pat)
def upN (s : Bv) : Nat := bitsN (upB s)
theorem upN_lt {s : Bv} (h : s.Ok) : upN s < 4096 := by
  have h1 := bitsN_lt (upB s)
  have h2 : (upB s).length ≤ 12 := by unfold upB; rw [List.length_map, h.len]; exact h.n.2
  have h3 : 2 ^ (upB s).length ≤ 2 ^ 12 := Nat.pow_le_pow_right (by decide) h2
  unfold upN
  omega
def hearS (s : Bv) (k : Nat) : Bv :=
  if upN { s with since := s.since.set k 0 } ≠ upN s then { s with since := s.since.set k 0, calm := 0 } else { s with since := s.since.set k 0 }
def oldS (s : Bv) : List Int := (List.range s.since.length).map fun i => if i = s.me then el s.since i else min (el s.since i + 1) s.pat
def tickS (s : Bv) : Bv :=
  if upN { s with since := oldS s } ≠ upN s then { s with since := oldS s, calm := 0 } else { s with since := oldS s, calm := min (s.calm + 1) 1000 }
def badV (sites : List Int) (me pat : Int) : Prop := (sites.any fun z => decide (z < 0 ∨ 12 ≤ z)) = true ∨ sites.length < 1 ∨ 12 < sites.length ∨ me < 0 ∨ (sites.length : Int) ≤ me ∨ pat < 1 ∨ 1000 < pat
def newV (sites : List Int) (me : Nat) (pat : Int) : Bv := ⟨sites, me, pat, (List.replicate sites.length pat).set me 0, 0⟩
theorem el_range {f : Nat → Int} {n i : Nat} (h : i < n) : el ((List.range n).map f) i = f i := by simp [el, h]
theorem oldS_length (s : Bv) : (oldS s).length = s.since.length := by simp [oldS]
theorem oldS_el {s : Bv} {i : Nat} (h : i < s.since.length) : el (oldS s) i = if i = s.me then el s.since i else min (el s.since i + 1) s.pat := el_range h
theorem hearS_parts (s : Bv) (k : Nat) : (hearS s k).sites = s.sites ∧ (hearS s k).me = s.me ∧ (hearS s k).pat = s.pat ∧ (hearS s k).since = s.since.set k 0 := by
  unfold hearS
  split <;> exact ⟨rfl, rfl, rfl, rfl⟩
theorem tickS_parts (s : Bv) : (tickS s).sites = s.sites ∧ (tickS s).me = s.me ∧ (tickS s).pat = s.pat ∧ (tickS s).since = oldS s := by
  unfold tickS
  split <;> exact ⟨rfl, rfl, rfl, rfl⟩
theorem Bv.Ok.hear {s : Bv} (h : s.Ok) (k : Nat) : (hearS s k).Ok := by
  obtain ⟨p1, p2, p3, p4⟩ := hearS_parts s k
  have hm : s.me < s.since.length := by rw [h.len]; exact h.me
  have hp := h.pat
  have hel : ∀ j, j < s.since.length → el (s.since.set k 0) j = if k = j then 0 else el s.since j := by
    intro j hj
    by_cases hk : k < s.since.length
    · exact el_set _ _ _ _ hk
    · rw [List.set_eq_of_length_le (by omega), if_neg (by omega)]
  refine ⟨by rw [p1]; exact h.n, by rw [p4, p1, List.length_set]; exact h.len, by rw [p1, p2]; exact h.me, ?_, by rw [p3]; exact h.pat, ?_, by rw [p1]; exact h.sites, ?_⟩
  · rw [p4, p2, hel _ hm]
    split
    · rfl
    · exact h.mine
  · intro j hj
    rw [p4, List.length_set] at hj
    rw [p4, p3, hel j hj]
    split
    · omega
    · exact h.since j hj
  · have := h.calm
    unfold hearS
    split
    · exact ⟨by dsimp only; omega, by dsimp only; omega⟩
    · exact this
theorem Bv.Ok.tick {s : Bv} (h : s.Ok) : (tickS s).Ok := by
  obtain ⟨p1, p2, p3, p4⟩ := tickS_parts s
  have hm : s.me < s.since.length := by rw [h.len]; exact h.me
  have hp := h.pat
  refine ⟨by rw [p1]; exact h.n, by rw [p4, p1, oldS_length]; exact h.len, by rw [p1, p2]; exact h.me, ?_, by rw [p3]; exact h.pat, ?_, by rw [p1]; exact h.sites, ?_⟩
  · rw [p4, p2, oldS_el hm, if_pos rfl]
    exact h.mine
  · intro j hj
    rw [p4, oldS_length] at hj
    have := h.since j hj
    rw [p4, p3, oldS_el hj]
    split <;> omega
  · have := h.calm
    unfold tickS
    split
    · exact ⟨by dsimp only; omega, by dsimp only; omega⟩
    · exact ⟨by dsimp only; omega, by dsimp only; omega⟩
theorem newV_ok {sites : List Int} {me : Nat} {pat : Int} (h : ¬ badV sites me pat) : (newV sites me pat).Ok := by
  have h1 : ¬ ((sites.any fun z => decide (z < 0 ∨ 12 ≤ z)) = true) := fun e => h (.inl e)
  have h2 : 1 ≤ sites.length ∧ sites.length ≤ 12 ∧ (me : Int) < sites.length ∧ 1 ≤ pat ∧ pat ≤ 1000 := by
    unfold badV at h
    omega
  have hl : ((List.replicate sites.length pat).set me 0).length = sites.length := by simp
  refine ⟨⟨h2.1, h2.2.1⟩, hl, by show me < sites.length; omega, ?_, ⟨h2.2.2.2.1, h2.2.2.2.2⟩, ?_, ?_, by show (0 : Int) ≤ 0 ∧ (0 : Int) ≤ 1000; decide⟩
  · show el ((List.replicate sites.length pat).set me 0) me = 0
    rw [el_set _ _ _ _ (by simp; omega), if_pos rfl]
  · intro j hj
    have hj2 : j < sites.length := by rw [← hl]; exact hj
    show 0 ≤ el ((List.replicate sites.length pat).set me 0) j ∧ el ((List.replicate sites.length pat).set me 0) j ≤ pat
    rw [el_set _ _ _ _ (by simp; omega)]
    split
    · omega
    · have : el (List.replicate sites.length pat) j = pat := by simp [el, hj2]
      omega
  · intro j hj
    have hj2 : j < sites.length := hj
    have hm := el_mem hj2
    have := fun e => h1 (List.any_eq_true.2 ⟨_, hm, e⟩)
    have h3 : ¬ (el sites j < 0 ∨ 12 ≤ el sites j) := fun e => this (decide_eq_true e)
    show 0 ≤ el sites j ∧ el sites j < 12
    omega
end Go.Proofs.Ytkdkdaljgoibaaa
