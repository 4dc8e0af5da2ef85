/-
  Law: the calm (beat).
-/
import Derived.Test.YtmkhggfcgblefaaDoorBeatLaw2
namespace Go.Proofs.YtmkhggfcgblefaaDoor
open Go Go.RowKit Bin

theorem upN_of {s t : Bv} (h1 : s.since = t.since) (h2 : s.pat = t.pat) : upN s = upN t := by
  unfold upN upB
  rw [h1, h2]
theorem up_same {s t : Bv} (ok : s.Ok) (okt : t.Ok) (hs : s.sites = t.sites) (h : ∀ k, k < s.sites.length → (el s.since k < s.pat ↔ el t.since k < t.pat)) : upN s = upN t := by
  unfold upN
  congr 1
  unfold upB
  apply List.ext_getElem
  · rw [List.length_map, List.length_map, ok.len, okt.len, hs]
  · intro k h1 h2
    rw [List.length_map] at h1 h2
    have hk : k < s.sites.length := by rw [← ok.len]; exact h1
    rw [List.getElem_map, List.getElem_map, decide_eq_decide]
    have e1 : s.since[k] = el s.since k := by simp [el, h1]
    have e2 : t.since[k] = el t.since k := by simp [el, h2]
    rw [e1, e2]
    exact h k hk
theorem tick_calm (s : Bv) : (upN (tickS s) = upN s → (tickS s).calm = min (s.calm + 1) 1000) ∧ (upN (tickS s) ≠ upN s → (tickS s).calm = 0) := by
  have e : upN (tickS s) = upN { s with since := oldS s } := upN_of (tickS_parts s).2.2.2 (tickS_parts s).2.2.1
  rw [e]
  unfold tickS
  constructor
  · intro h
    rw [if_neg (fun q => q h)]
  · intro h
    rw [if_pos h]
theorem hear_calm (s : Bv) (z : Int) : (upN (hearZ s z) = upN s → (hearZ s z).calm = s.calm) ∧ (upN (hearZ s z) ≠ upN s → (hearZ s z).calm = 0) := by
  unfold hearZ
  split
  · have e : upN (hearS s z.toNat) = upN { s with since := s.since.set z.toNat 0 } := upN_of (hearS_parts s _).2.2.2 (hearS_parts s _).2.2.1
    rw [e]
    unfold hearS
    constructor
    · intro h
      rw [if_neg (fun q => q h)]
    · intro h
      rw [if_pos h]
  · exact ⟨fun _ => rfl, fun h => absurd rfl h⟩
theorem hear_up {s : Bv} (ok : s.Ok) {z : Int} (h : ∀ k, k < s.sites.length → z = (k : Int) → el s.since k < s.pat) : upN (hearZ s z) = upN s := by
  have hp := hearZ_parts s z
  refine up_same (ok.hearZ z) ok hp.1 fun k hk => ?_
  rw [hp.1] at hk
  rw [hearZ_since ok hk, hp.2.2]
  split
  · rename_i e
    have := h k hk e
    have := ok.pat.1
    omega
  · exact Iff.rfl
theorem hears_up {l : List Int} : ∀ {s : Bv} (_ : s.Ok) (_ : ∀ k, k < s.sites.length → (k : Int) ∈ l → el s.since k < s.pat), upN (hearsS s l) = upN s ∧ (hearsS s l).calm = s.calm := by
  induction l with
  | nil => exact fun _ _ => ⟨rfl, rfl⟩
  | cons z l ih =>
    intro s ok h
    have hp := hearZ_parts s z
    have h1 : upN (hearZ s z) = upN s := hear_up ok fun k hk e => h k hk (by rw [← e]; exact List.mem_cons_self ..)
    have h2 := (hear_calm s z).1 h1
    obtain ⟨a, b⟩ := ih (s := hearZ s z) (ok.hearZ z) (fun k hk hm => by
      rw [hp.1] at hk
      rw [hearZ_since ok hk, hp.2.2]
      split
      · have := ok.pat.1
        omega
      · exact h k hk (List.mem_cons_of_mem _ hm))
    exact ⟨a.trans h1, b.trans h2⟩
theorem hear_calm_le (s : Bv) (ok : s.Ok) (z : Int) : (hearZ s z).calm ≤ s.calm := by
  have hc := hear_calm s z
  by_cases e : upN (hearZ s z) = upN s
  · rw [hc.1 e]
    exact Int.le_refl _
  · rw [hc.2 e]
    exact ok.calm.1
theorem hears_calm_le {l : List Int} : ∀ {s : Bv} (_ : s.Ok), (hearsS s l).calm ≤ s.calm := by
  induction l with
  | nil => exact fun _ => Int.le_refl _
  | cons z l ih =>
    intro s ok
    exact Int.le_trans (ih (ok.hearZ z)) (hear_calm_le s ok z)
theorem tick_calm_le (s : Bv) (ok : s.Ok) : (tickS s).calm ≤ s.calm + 1 := by
  have hc := tick_calm s
  by_cases e : upN (tickS s) = upN s
  · rw [hc.1 e]
    omega
  · rw [hc.2 e]
    have := ok.calm.1
    omega
/-- One round: a tick, and the beats of all. -/
def roundC (s : Bv) (l : List Int) : Bv := hearsS (tickS s) l
structure Clm (VL : List Int) (me : Nat) (n : Int) (l : List Int) (r : Nat) (s : Bv) : Prop where
  ok : s.Ok
  sites : s.sites = VL
  hme : s.me = me
  pat : s.pat = n
  heard : ∀ k, k < VL.length → (k = me ∨ (k : Int) ∈ l) → 1 ≤ r → el s.since k = 0
  not : ∀ k, k < VL.length → ¬ (k = me ∨ (k : Int) ∈ l) → min (r : Int) n ≤ el s.since k
  calm : s.calm ≤ r
theorem Clm.next {VL : List Int} {me : Nat} {n : Int} {l : List Int} {r : Nat} {s : Bv} (h : Clm VL me n l r s) : Clm VL me n l (r + 1) (roundC s l) := by
  obtain ⟨t1, t2, t3, _⟩ := tickS_parts s
  obtain ⟨b1, b2, b3⟩ := hearsS_parts (tickS s) l
  have okt := h.ok.tick
  have okr := okt.hears l
  have hs : ∀ k, k < VL.length → el (roundC s l).since k = if (k : Int) ∈ l then 0 else if k = s.me then el s.since k else min (el s.since k + 1) s.pat := by
    intro k hk
    unfold roundC
    rw [hearsS_since okt (by rw [t1, h.sites]; exact hk), tickS_since h.ok (by rw [h.sites]; exact hk)]
  refine ⟨okr, b1.trans (t1.trans h.sites), b2.trans (t2.trans h.hme), b3.trans (t3.trans h.pat), fun k hk hS _ => ?_, fun k hk hn => ?_, ?_⟩
  · rw [hs k hk]
    by_cases e1 : (k : Int) ∈ l
    · rw [if_pos e1]
    · rw [if_neg e1]
      have e3 : k = me := by
        rcases hS with q | q
        · exact q
        · exact absurd q e1
      rw [if_pos (by rw [h.hme]; exact e3), e3, ← h.hme]
      exact h.ok.mine
  · have hk2 := h.not k hk hn
    rw [hs k hk, if_neg (fun q => hn (.inr q)), if_neg (fun q => hn (.inl (by rw [q, h.hme]))), h.pat]
    omega
  · have h1 := hears_calm_le (l := l) okt
    have h2 := tick_calm_le s h.ok
    have h3 := h.calm
    show (hearsS (tickS s) l).calm ≤ _
    omega
/-- From the patience's end on: one tick calmer, the same ones up. -/
theorem Clm.same {VL : List Int} {me : Nat} {n : Int} {l : List Int} {r : Nat} {s : Bv} (h : Clm VL me n l r s) (h2 : 2 ≤ n) (hr : n ≤ r) (hr2 : r ≤ 900) : upN (roundC s l) = upN s ∧ (roundC s l).calm = s.calm + 1 := by
  obtain ⟨t1, t2, t3, _⟩ := tickS_parts s
  have okt := h.ok.tick
  have hts : ∀ k, k < VL.length → el (tickS s).since k = if k = s.me then el s.since k else min (el s.since k + 1) s.pat := fun k hk => tickS_since h.ok (by rw [h.sites]; exact hk)
  have e1 : upN (tickS s) = upN s := up_same okt h.ok t1 fun k hk => by
    rw [t1, h.sites] at hk
    rw [hts k hk, t3, h.pat]
    by_cases hm : k = s.me
    · rw [if_pos hm]
    · rw [if_neg hm]
      by_cases hS : k = me ∨ (k : Int) ∈ l
      · rw [h.heard k hk hS (by omega)]
        omega
      · have := h.not k hk hS
        omega
  have e2 := (tick_calm s).1 e1
  obtain ⟨e3, e4⟩ := hears_up (l := l) okt fun k hk hm => by
    rw [t1, h.sites] at hk
    rw [hts k hk, t3, h.pat, h.heard k hk (.inr hm) (by omega)]
    split <;> omega
  have := h.calm
  exact ⟨e3.trans e1, by show (hearsS (tickS s) l).calm = _; rw [e4, e2]; omega⟩
theorem ord_of {s t : Bv} (h1 : s.sites = t.sites) (h2 : upN s = upN t) (home : Int) : ordS s home = ordS t home := by
  unfold ordS
  rw [h1, h2]
theorem Clm.zero {s : Bv} (ok : s.Ok) (l : List Int) (h : s.calm = 0) : Clm s.sites s.me s.pat l 0 s :=
  ⟨ok, rfl, rfl, rfl, fun _ _ _ h => absurd h (by decide), fun k hk _ => by have := (ok.since k (by rw [ok.len]; exact hk)).1; have := ok.pat.1; omega, by omega⟩
end Go.Proofs.YtmkhggfcgblefaaDoor
