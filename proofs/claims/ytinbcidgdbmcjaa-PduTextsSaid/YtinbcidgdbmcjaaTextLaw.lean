/-
  Law: the pairs of bytes (pdu).
-/
import Derived.Test.YtinbcidgdbmcjaaPdu6
namespace Go.Proofs.Ytinbcidgdbmcjaa
open Go Go.RowKit Go.Lib Bin

theorem indexByte_at : ∀ {k r : List UInt8} {c : UInt8}, c ∉ k → indexByte (k ++ c :: r) c = (k.length : Int)
  | [], r, c, _ => by simp [indexByte]
  | b :: k, r, c, h => by
    have hb : ¬ b = c := fun e => h (by rw [e]; exact List.mem_cons_self ..)
    have ih := indexByte_at (k := k) (r := r) (c := c) (fun q => h (List.mem_cons_of_mem _ q))
    rw [List.cons_append]
    unfold indexByte
    rw [if_neg (by simpa using hb), ih, if_neg (by simp)]
    simp
theorem indexByte_split : ∀ {l : List UInt8} {c : UInt8}, c ∈ l → ∃ k r, l = k ++ c :: r ∧ c ∉ k
  | [], c, h => absurd h (by simp)
  | b :: l, c, h => by
    by_cases hb : b = c
    · exact ⟨[], l, by rw [hb]; rfl, by simp⟩
    · have hl : c ∈ l := by
        rcases List.mem_cons.1 h with e | e
        · exact absurd e.symm hb
        · exact e
      obtain ⟨k, r, e, hk⟩ := indexByte_split hl
      refine ⟨b :: k, r, by rw [e]; rfl, fun q => ?_⟩
      rcases List.mem_cons.1 q with e2 | e2
      · exact hb e2.symm
      · exact hk e2
/-- One pair ahead, and what stands behind it. -/
def stepT (rest : List UInt8) : Option (Pr × List UInt8) :=
  if indexByte rest 0 < 0 then none
  else if indexByte (rest.take (indexByte rest 0).toNat) 61 < 0 then none
  else some (((rest.take (indexByte rest 0).toNat).take (indexByte (rest.take (indexByte rest 0).toNat) 61).toNat, (rest.take (indexByte rest 0).toNat).drop ((indexByte (rest.take (indexByte rest 0).toNat) 61).toNat + 1)), rest.drop ((indexByte rest 0).toNat + 1))
theorem stepT_no0 {rest : List UInt8} (h : (0 : UInt8) ∉ rest) : stepT rest = none := by
  unfold stepT
  rw [if_pos (indexByte_neg.2 h)]
theorem stepT_no61 {k r : List UInt8} (h0 : (0 : UInt8) ∉ k) (h1 : (61 : UInt8) ∉ k) : stepT (k ++ 0 :: r) = none := by
  have e := indexByte_at (r := r) h0
  unfold stepT
  rw [e, if_neg (by omega), Int.toNat_natCast, List.take_left, if_pos (indexByte_neg.2 h1)]
theorem stepT_some {k v r : List UInt8} (h0 : (0 : UInt8) ∉ k) (h1 : (61 : UInt8) ∉ k) (h2 : (0 : UInt8) ∉ v) : stepT (txt (k, v) ++ r) = some ((k, v), r) := by
  have e0 : txt (k, v) ++ r = (k ++ 61 :: v) ++ 0 :: r := by unfold txt; simp
  have hn : (0 : UInt8) ∉ k ++ 61 :: v := by
    intro q
    rcases List.mem_append.1 q with q | q
    · exact h0 q
    · rcases List.mem_cons.1 q with q | q
      · exact absurd q (by decide)
      · exact h2 q
  have e := indexByte_at (r := r) hn
  have e2 := indexByte_at (r := v) h1
  rw [e0]
  unfold stepT
  rw [e, if_neg (by omega), Int.toNat_natCast, List.take_left, e2, if_neg (by omega), Int.toNat_natCast, List.take_left]
  have d1 : (k ++ 61 :: v).drop (k.length + 1) = v := by rw [List.drop_append]; simp
  have d2 : ((k ++ 61 :: v) ++ 0 :: r).drop ((k ++ 61 :: v).length + 1) = r := by rw [List.drop_append]; simp
  rw [d1, d2]
/-- What a step says. -/
theorem stepT_cases (rest : List UInt8) : (stepT rest = none ∧ (0 : UInt8) ∉ rest) ∨ (∃ k r, rest = k ++ 0 :: r ∧ (0 : UInt8) ∉ k ∧ (61 : UInt8) ∉ k ∧ stepT rest = none) ∨ (∃ k v r, rest = txt (k, v) ++ r ∧ (0 : UInt8) ∉ k ∧ (61 : UInt8) ∉ k ∧ (0 : UInt8) ∉ v ∧ stepT rest = some ((k, v), r)) := by
  by_cases h : (0 : UInt8) ∈ rest
  · obtain ⟨one, r, rfl, h0⟩ := indexByte_split h
    by_cases h1 : (61 : UInt8) ∈ one
    · obtain ⟨k, v, rfl, h2⟩ := indexByte_split h1
      refine .inr (.inr ⟨k, v, r, by unfold txt; simp, fun q => h0 (List.mem_append_left _ q), h2, fun q => h0 (List.mem_append_right _ (List.mem_cons_of_mem _ q)), ?_⟩)
      have := stepT_some (k := k) (v := v) (r := r) (fun q => h0 (List.mem_append_left _ q)) h2 (fun q => h0 (List.mem_append_right _ (List.mem_cons_of_mem _ q)))
      rw [← this]
      unfold txt
      simp
    · exact .inr (.inl ⟨one, r, rfl, h0, h1, stepT_no61 h0 h1⟩)
  · exact .inl ⟨stepT_no0 h, h⟩
/-- The pairs, one behind the other. -/
def runT : Nat → List Pr → List UInt8 → Option (List Pr)
  | 0, l, _ => some l
  | f + 1, l, rest => if rest = [] ∨ 32 < l.length then some l else match stepT rest with
    | none => none
    | some (p, r) => runT f (l ++ [p]) r
theorem txt_pos (p : Pr) : 2 ≤ (txt p).length := by unfold txt; simp; omega
theorem stepT_less {rest r : List UInt8} {p : Pr} (h : stepT rest = some (p, r)) : r.length < rest.length ∧ rest = txt p ++ r := by
  rcases stepT_cases rest with ⟨e, _⟩ | ⟨_, _, _, _, _, e⟩ | ⟨k, v, r', e, _, _, _, e2⟩
  · rw [e] at h
    cases h
  · rw [e] at h
    cases h
  · rw [e2] at h
    cases h
    have := txt_pos (k, v)
    refine ⟨?_, e⟩
    rw [e, List.length_append]
    omega
theorem runT_more : ∀ (f g : Nat) (l : List Pr) (rest : List UInt8), rest.length < f → f ≤ g → runT g l rest = runT f l rest
  | 0, _, _, _, h, _ => absurd h (Nat.not_lt_zero _)
  | f + 1, 0, _, _, _, h => absurd h (Nat.not_succ_le_zero _)
  | f + 1, g + 1, l, rest, h, hg => by
    unfold runT
    by_cases h1 : rest = [] ∨ 32 < l.length
    · rw [if_pos h1, if_pos h1]
    · rw [if_neg h1, if_neg h1]
      cases hs : stepT rest with
      | none => rfl
      | some q =>
        obtain ⟨p, r⟩ := q
        have := (stepT_less hs).1
        exact runT_more f g (l ++ [p]) r (by omega) (by omega)
def allT (l : List Pr) (rest : List UInt8) : Option (List Pr) := runT (rest.length + 1) l rest
theorem allT_end {l : List Pr} {rest : List UInt8} (h : rest = [] ∨ 32 < l.length) : allT l rest = some l := by
  unfold allT runT
  rw [if_pos h]
theorem allT_none {l : List Pr} {rest : List UInt8} (h : ¬ (rest = [] ∨ 32 < l.length)) (hs : stepT rest = none) : allT l rest = none := by
  unfold allT runT
  rw [if_neg h, hs]
theorem allT_step {l : List Pr} {rest r : List UInt8} {p : Pr} (h : ¬ (rest = [] ∨ 32 < l.length)) (hs : stepT rest = some (p, r)) : allT l rest = allT (l ++ [p]) r := by
  have h1 := (stepT_less hs).1
  have e : allT l rest = runT rest.length (l ++ [p]) r := by
    unfold allT
    rw [runT, if_neg h, hs]
  rw [e]
  exact runT_more _ _ _ _ (by omega) (by omega)
/-- The pairs of bytes, or the error. -/
def textsE (b : List UInt8) : Int := match allT [] b with
  | none => 200
  | some l => if putTE l = 0 then 0 else 200
def textsL (b : List UInt8) : List Pr := match allT [] b with
  | none => []
  | some l => if putTE l = 0 then l else []
theorem texts_none {b : List UInt8} (h : allT [] b = none) : textsE b = 200 ∧ textsL b = [] := by
  unfold textsE textsL
  rw [h]
  exact ⟨rfl, rfl⟩
theorem texts_bad {b : List UInt8} {l : List Pr} (h : allT [] b = some l) (hp : putTE l ≠ 0) : textsE b = 200 ∧ textsL b = [] := by
  unfold textsE textsL
  rw [h]
  exact ⟨if_neg hp, if_neg hp⟩
theorem texts_good {b : List UInt8} {l : List Pr} (h : allT [] b = some l) (hp : putTE l = 0) : textsE b = 0 ∧ textsL b = l := by
  unfold textsE textsL
  rw [h]
  exact ⟨if_pos hp, if_pos hp⟩
theorem letter_not {c : UInt8} (h : letterP c) : c ≠ 0 ∧ c ≠ 61 := by
  constructor
  · rintro rfl
    exact absurd h (by decide)
  · rintro rfl
    exact absurd h (by decide)
theorem key_not {s : List UInt8} (h : keyP s) : (0 : UInt8) ∉ s ∧ (61 : UInt8) ∉ s := by
  have q : ∀ c ∈ s, c ≠ 0 ∧ c ≠ 61 := by
    intro c hc
    obtain ⟨i, hi, rfl⟩ := List.getElem_of_mem hc
    have := h.2.2 i hi
    rw [show el s i = s[i] by simp [el, hi]] at this
    exact letter_not this
  exact ⟨fun e => (q _ e).1 rfl, fun e => (q _ e).2 rfl⟩
/-- What was written is read again. -/
theorem allT_put : ∀ (m l : List Pr), (∀ p ∈ m, pairP p) → l.length + m.length ≤ 32 → allT l (putT m) = some (l ++ m)
  | [], l, _, _ => by
    rw [List.append_nil]
    exact allT_end (.inl rfl)
  | p :: m, l, h, hl => by
    have hp := h p (List.mem_cons_self ..)
    have hk := key_not hp.1
    have hs : stepT (putT (p :: m)) = some (p, putT m) := stepT_some hk.1 hk.2 hp.2.1
    have hne : ¬ (putT (p :: m) = [] ∨ 32 < l.length) := by
      rintro (e | e)
      · have e2 := congrArg List.length e
        have := txt_pos p
        have e3 : putT (p :: m) = txt p ++ putT m := rfl
        rw [e3, List.length_append, List.length_nil] at e2
        omega
      · rw [List.length_cons] at hl
        omega
    rw [allT_step hne hs, allT_put m (l ++ [p]) (fun q hq => h q (List.mem_cons_of_mem _ hq)) (by rw [List.length_append, List.length_singleton]; rw [List.length_cons] at hl; omega)]
    simp
theorem putTE_good {l : List Pr} (h : putTE l = 0) : l.length ≤ 32 ∧ (∀ p ∈ l, pairP p) ∧ (putT l).length ≤ 4096 := by
  unfold putTE at h
  split at h
  · cases h
  rename_i h1
  split at h
  · cases h
  rename_i h2
  split at h
  · cases h
  rename_i h3
  have h2 := Classical.not_not.1 h2
  refine ⟨by omega, fun p hp => ?_, by omega⟩
  obtain ⟨i, hi, rfl⟩ := List.getElem_of_mem hp
  have := (h2 i hi).2
  rwa [show el l i = l[i] by simp [el, hi]] at this
theorem texts_put {l : List Pr} (h : putTE l = 0) : textsE (putT l) = 0 ∧ textsL (putT l) = l := by
  obtain ⟨h1, h2, _⟩ := putTE_good h
  have e := allT_put l [] h2 (by simpa using h1)
  exact texts_good (by simpa using e) h
/-- What was read is written so. -/
theorem runT_putT : ∀ (f : Nat) (l : List Pr) (rest : List UInt8) (m : List Pr), rest.length < f → runT f l rest = some m → m.length ≤ 32 → putT m = putT l ++ rest
  | 0, _, _, _, h, _, _ => absurd h (Nat.not_lt_zero _)
  | f + 1, l, rest, m, h, hr, hm => by
    unfold runT at hr
    by_cases h1 : rest = [] ∨ 32 < l.length
    · rw [if_pos h1] at hr
      cases hr
      rcases h1 with rfl | h1
      · simp
      · omega
    · rw [if_neg h1] at hr
      cases hs : stepT rest with
      | none => rw [hs] at hr; cases hr
      | some q =>
        obtain ⟨p, r⟩ := q
        rw [hs] at hr
        obtain ⟨h3, h4⟩ := stepT_less hs
        have := runT_putT f (l ++ [p]) r m (by omega) hr hm
        rw [this, h4]
        unfold putT
        simp
theorem put_texts {b : List UInt8} (h : textsE b = 0) : putTE (textsL b) = 0 ∧ putT (textsL b) = b := by
  cases ha : allT [] b with
  | none =>
    rw [(texts_none ha).1] at h
    cases h
  | some l =>
    by_cases hp : putTE l = 0
    · rw [(texts_good ha hp).2]
      have := runT_putT _ _ _ _ (Nat.lt_succ_self _) ha (putTE_good hp).1
      exact ⟨hp, by rw [this]; rfl⟩
    · rw [(texts_bad ha hp).1] at h
      cases h
end Go.Proofs.Ytinbcidgdbmcjaa
