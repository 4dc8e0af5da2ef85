/-
  Law: a sorted list is one alone; the order of nodes (beat).
-/
import Derived.Test.YtkdkdaljgoibaaaBeatLaw
namespace Go.Proofs.Ytkdkdaljgoibaaa
open Go Go.RowKit

/-- Sorted. -/
def Srt (lt : Int → Int → Prop) (l : List Int) : Prop := l.Pairwise lt
theorem srt_one {lt : Int → Int → Prop} (irr : ∀ a, ¬ lt a a) (tr : ∀ a b c, lt a b → lt b c → lt a c) : ∀ {l m : List Int}, Srt lt l → Srt lt m → (∀ x, x ∈ l ↔ x ∈ m) → l = m
  | [], [], _, _, _ => rfl
  | [], b :: m, _, _, h => absurd ((h b).2 (List.mem_cons_self ..)) (by simp)
  | a :: l, [], _, _, h => absurd ((h a).1 (List.mem_cons_self ..)) (by simp)
  | a :: l, b :: m, hl, hm, h => by
    obtain ⟨l1, l2⟩ := List.pairwise_cons.1 hl
    obtain ⟨m1, m2⟩ := List.pairwise_cons.1 hm
    have e : a = b := by
      rcases List.mem_cons.1 ((h a).1 (List.mem_cons_self ..)) with q | q
      · exact q
      · rcases List.mem_cons.1 ((h b).2 (List.mem_cons_self ..)) with q2 | q2
        · exact q2.symm
        · exact absurd (tr _ _ _ (m1 _ q) (l1 _ q2)) (irr _)
    subst e
    rw [srt_one irr tr l2 m2 fun x => ?_]
    constructor
    · intro hx
      rcases List.mem_cons.1 ((h x).1 (List.mem_cons_of_mem _ hx)) with q | q
      · subst q
        exact absurd (l1 _ hx) (irr _)
      · exact q
    · intro hx
      rcases List.mem_cons.1 ((h x).2 (List.mem_cons_of_mem _ hx)) with q | q
      · subst q
        exact absurd (m1 _ hx) (irr _)
      · exact q
/-- Away from home: 1. -/
def awayZ (site home : Int) : Int := if site = home then 0 else 1
def cmpZ (x y : Int) : Int := if x < y then -1 else if y < x then 1 else 0
/-- A node's site. -/
def siteOf (sites : List Int) (x : Int) : Int := el sites x.toNat
def orZ (a b c : Int) : Int := if a ≠ 0 then a else if b ≠ 0 then b else c
def cmpN (sites : List Int) (home x y : Int) : Int := orZ (cmpZ (awayZ (siteOf sites x) home) (awayZ (siteOf sites y) home)) (cmpZ (siteOf sites x) (siteOf sites y)) (cmpZ x y)
def ltN (sites : List Int) (home x y : Int) : Prop := cmpN sites home x y < 0
theorem ltN_iff (sites : List Int) (home x y : Int) : ltN sites home x y ↔ (awayZ (siteOf sites x) home < awayZ (siteOf sites y) home ∨ (awayZ (siteOf sites x) home = awayZ (siteOf sites y) home ∧ (siteOf sites x < siteOf sites y ∨ (siteOf sites x = siteOf sites y ∧ x < y)))) := by
  unfold ltN cmpN
  obtain ⟨a, ha⟩ : ∃ a, awayZ (siteOf sites x) home = a := ⟨_, rfl⟩
  obtain ⟨b, hb⟩ : ∃ b, awayZ (siteOf sites y) home = b := ⟨_, rfl⟩
  obtain ⟨c, hc⟩ : ∃ c, siteOf sites x = c := ⟨_, rfl⟩
  obtain ⟨d, hd⟩ : ∃ d, siteOf sites y = d := ⟨_, rfl⟩
  rw [ha, hb, hc, hd]
  unfold orZ cmpZ
  repeat' split
  all_goals omega
theorem ltN_irr (sites : List Int) (home x : Int) : ¬ ltN sites home x x := by
  rw [ltN_iff]
  omega
theorem ltN_tr (sites : List Int) (home x y z : Int) (h1 : ltN sites home x y) (h2 : ltN sites home y z) : ltN sites home x z := by
  rw [ltN_iff] at *
  omega
theorem ltN_tot (sites : List Int) (home x y : Int) (h : ¬ ltN sites home x y) (hn : x ≠ y) : ltN sites home y x := by
  rw [ltN_iff] at *
  omega
theorem onesN_mem (n : Nat) (x : Int) : x ∈ onesN n ↔ ∃ i : Nat, i < 12 ∧ n / 2 ^ i % 2 = 1 ∧ x = (i : Int) := by
  unfold onesN
  rw [List.mem_map]
  constructor
  · rintro ⟨i, hi, rfl⟩
    rw [List.mem_filter, List.mem_range] at hi
    exact ⟨i, hi.1, by simpa using hi.2, rfl⟩
  · rintro ⟨i, h1, h2, rfl⟩
    exact ⟨i, by rw [List.mem_filter, List.mem_range]; exact ⟨h1, by simpa using h2⟩, rfl⟩
theorem onesN_nodup (n : Nat) : (onesN n).Nodup := by
  unfold onesN
  refine List.Pairwise.map _ (fun a b h => ?_) ((List.nodup_range (n := 12)).filter _)
  intro e
  exact h (by omega)
theorem onesN_zero : onesN 0 = [] := by decide +kernel
/-- The nodes of a set by their order: those of the home site, then site by site. -/
def homeL (sites : List Int) (n : Nat) (home : Int) : List Int := (onesN n).filter fun x => decide (siteOf sites x = home)
def siteL (sites : List Int) (n : Nat) (home : Int) (k : Nat) : List Int := (onesN n).filter fun x => decide (siteOf sites x = (k : Int) ∧ siteOf sites x ≠ home)
def ordL (sites : List Int) (n : Nat) (home : Int) : List Int := homeL sites n home ++ (List.range 12).flatMap (siteL sites n home)
theorem onesN_up (n : Nat) : (onesN n).Pairwise (· < ·) := by
  unfold onesN
  refine List.Pairwise.map _ (fun a b h => ?_) ((List.pairwise_lt_range (n := 12)).filter _)
  have : a < b := h
  omega
theorem ordL_srt (sites : List Int) (n : Nat) (home : Int) : Srt (ltN sites home) (ordL sites n home) := by
  unfold Srt ordL
  rw [List.pairwise_append]
  refine ⟨?_, ?_, ?_⟩
  · unfold homeL
    refine (onesN_up n).filter _ |>.imp_of_mem ?_
    intro a b ha hb hab
    rw [List.mem_filter] at ha hb
    have h1 : siteOf sites a = home := by simpa using ha.2
    have h2 : siteOf sites b = home := by simpa using hb.2
    rw [ltN_iff, h1, h2]
    omega
  · rw [List.pairwise_flatMap]
    refine ⟨fun k _ => ?_, ?_⟩
    · unfold siteL
      refine (onesN_up n).filter _ |>.imp_of_mem ?_
      intro a b ha hb hab
      rw [List.mem_filter] at ha hb
      have h1 : siteOf sites a = (k : Int) ∧ siteOf sites a ≠ home := by simpa using ha.2
      have h2 : siteOf sites b = (k : Int) ∧ siteOf sites b ≠ home := by simpa using hb.2
      rw [ltN_iff, h1.1, h2.1]
      omega
    · refine (List.pairwise_lt_range (n := 12)).imp ?_
      intro j k hjk a ha b hb
      unfold siteL at ha hb
      rw [List.mem_filter] at ha hb
      have h1 : siteOf sites a = (j : Int) ∧ siteOf sites a ≠ home := by simpa using ha.2
      have h2 : siteOf sites b = (k : Int) ∧ siteOf sites b ≠ home := by simpa using hb.2
      rw [ltN_iff]
      unfold awayZ
      rw [if_neg h1.2, if_neg h2.2]
      omega
  · intro a ha b hb
    unfold homeL at ha
    rw [List.mem_filter] at ha
    obtain ⟨k, _, hb⟩ := List.mem_flatMap.1 hb
    unfold siteL at hb
    rw [List.mem_filter] at hb
    have h1 : siteOf sites a = home := by simpa using ha.2
    have h2 : siteOf sites b = (k : Int) ∧ siteOf sites b ≠ home := by simpa using hb.2
    rw [ltN_iff]
    unfold awayZ
    rw [if_pos h1, if_neg h2.2]
    omega
theorem ordL_mem (sites : List Int) (n : Nat) (home : Int) (hs : ∀ x ∈ onesN n, 0 ≤ siteOf sites x ∧ siteOf sites x < 12) (x : Int) : x ∈ ordL sites n home ↔ x ∈ onesN n := by
  unfold ordL
  rw [List.mem_append, List.mem_flatMap]
  constructor
  · rintro (h | ⟨k, _, h⟩)
    · exact (List.mem_filter.1 h).1
    · exact (List.mem_filter.1 h).1
  · intro h
    by_cases hh : siteOf sites x = home
    · exact .inl (List.mem_filter.2 ⟨h, decide_eq_true hh⟩)
    · have := hs x h
      refine .inr ⟨(siteOf sites x).toNat, List.mem_range.2 (by omega), List.mem_filter.2 ⟨h, decide_eq_true ⟨by omega, hh⟩⟩⟩
end Go.Proofs.Ytkdkdaljgoibaaa
