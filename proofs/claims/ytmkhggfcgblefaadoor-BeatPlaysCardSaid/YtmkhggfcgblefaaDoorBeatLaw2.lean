/-
  Law: what hears and ticks do to each node (beat).
-/
import Derived.Test.YtmkhggfcgblefaaDoorBeatIn
namespace Go.Proofs.YtmkhggfcgblefaaDoor
open Go Go.RowKit Bin

theorem hearZ_parts (s : Bv) (z : Int) : (hearZ s z).sites = s.sites ∧ (hearZ s z).me = s.me ∧ (hearZ s z).pat = s.pat := by
  unfold hearZ
  split
  · exact ⟨(hearS_parts s _).1, (hearS_parts s _).2.1, (hearS_parts s _).2.2.1⟩
  · exact ⟨rfl, rfl, rfl⟩
theorem hearZ_since {s : Bv} (ok : s.Ok) {k : Nat} (hk : k < s.sites.length) (z : Int) : el (hearZ s z).since k = if z = (k : Int) then 0 else el s.since k := by
  unfold hearZ
  by_cases h : 0 ≤ z ∧ z < (s.sites.length : Int)
  · rw [if_pos h, (hearS_parts s _).2.2.2, el_set _ _ _ _ (by rw [ok.len]; omega)]
    by_cases e : z = (k : Int)
    · rw [if_pos (by omega), if_pos e]
    · rw [if_neg (by omega), if_neg e]
  · rw [if_neg h, if_neg (by omega)]
theorem tickS_since {s : Bv} (ok : s.Ok) {k : Nat} (hk : k < s.sites.length) : el (tickS s).since k = if k = s.me then el s.since k else min (el s.since k + 1) s.pat := by
  rw [(tickS_parts s).2.2.2, oldS_el (by rw [ok.len]; exact hk)]
def hearsS (s : Bv) (l : List Int) : Bv := l.foldl hearZ s
theorem hearsS_snoc (s : Bv) (l : List Int) (z : Int) : hearsS s (l ++ [z]) = hearZ (hearsS s l) z := by unfold hearsS; rw [List.foldl_append]; rfl
theorem hearsS_take {s : Bv} {l : List Int} {i : Nat} (h : i < l.length) : hearsS s (l.take (i + 1)) = hearZ (hearsS s (l.take i)) (el l i) := by rw [take_snocZ h, hearsS_snoc]
theorem Bv.Ok.hears {s : Bv} (h : s.Ok) (l : List Int) : (hearsS s l).Ok := by
  induction l generalizing s with
  | nil => exact h
  | cons z l ih => exact ih (h.hearZ z)
theorem hearsS_parts (s : Bv) (l : List Int) : (hearsS s l).sites = s.sites ∧ (hearsS s l).me = s.me ∧ (hearsS s l).pat = s.pat := by
  induction l generalizing s with
  | nil => exact ⟨rfl, rfl, rfl⟩
  | cons z l ih =>
    obtain ⟨a, b, c⟩ := ih (hearZ s z)
    obtain ⟨a', b', c'⟩ := hearZ_parts s z
    exact ⟨a.trans a', b.trans b', c.trans c'⟩
theorem hearsS_since {s : Bv} (ok : s.Ok) {k : Nat} (hk : k < s.sites.length) (l : List Int) : el (hearsS s l).since k = if (k : Int) ∈ l then 0 else el s.since k := by
  induction l generalizing s with
  | nil => rw [if_neg (by simp)]; rfl
  | cons z l ih =>
    have h1 : el (hearsS (hearZ s z) l).since k = if (k : Int) ∈ l then 0 else el (hearZ s z).since k := ih (ok.hearZ z) (by rw [(hearZ_parts s z).1]; exact hk)
    show el (hearsS (hearZ s z) l).since k = _
    rw [h1, hearZ_since ok hk z]
    by_cases e1 : (k : Int) ∈ l
    · rw [if_pos e1, if_pos (List.mem_cons_of_mem _ e1)]
    · rw [if_neg e1]
      by_cases e2 : z = (k : Int)
      · rw [if_pos e2, if_pos (by rw [e2]; exact List.mem_cons_self ..)]
      · rw [if_neg e2, if_neg (by rintro h; rcases List.mem_cons.1 h with q | q; exact e2 q.symm; exact e1 q)]
theorem actS_parts (s : Bv) (z : Int) : (actS s z).sites = s.sites ∧ (actS s z).me = s.me ∧ (actS s z).pat = s.pat := by
  unfold actS
  split
  · exact ⟨(tickS_parts s).1, (tickS_parts s).2.1, (tickS_parts s).2.2.1⟩
  · exact hearZ_parts s z
theorem runS_parts (s : Bv) (l : List Int) : (runS s l).sites = s.sites ∧ (runS s l).me = s.me ∧ (runS s l).pat = s.pat := by
  induction l generalizing s with
  | nil => exact ⟨rfl, rfl, rfl⟩
  | cons z l ih =>
    obtain ⟨a, b, c⟩ := ih (actS s z)
    obtain ⟨a', b', c'⟩ := actS_parts s z
    exact ⟨a.trans a', b.trans b', c.trans c'⟩
/-- One round: a tick, a beat of one, and those of all. -/
def roundA (s : Bv) (x : Int) (l : List Int) : Bv := hearsS (hearZ (tickS s) x) l
/-- Who was heard, r rounds long. -/
structure Agr (VL : List Int) (me x : Nat) (l : List Int) (r : Nat) (s : Bv) : Prop where
  ok : s.Ok
  sites : s.sites = VL
  hme : s.me = me
  pat : s.pat = 4
  heard : ∀ k, k < VL.length → (k = me ∨ k = x ∨ (k : Int) ∈ l) → 1 ≤ r → el s.since k = 0
  not : ∀ k, k < VL.length → ¬ (k = me ∨ k = x ∨ (k : Int) ∈ l) → (min r 4 : Int) ≤ el s.since k
theorem Agr.next {VL : List Int} {me x : Nat} {l : List Int} {r : Nat} {s : Bv} (h : Agr VL me x l r s) : Agr VL me x l (r + 1) (roundA s (x : Int) l) := by
  obtain ⟨t1, t2, t3, _⟩ := tickS_parts s
  obtain ⟨a1, a2, a3⟩ := hearZ_parts (tickS s) (x : Int)
  obtain ⟨b1, b2, b3⟩ := hearsS_parts (hearZ (tickS s) (x : Int)) l
  have okt := h.ok.tick
  have okh := okt.hearZ (x : Int)
  have okr := okh.hears l
  have hs : ∀ k, k < VL.length → el (roundA s (x : Int) l).since k = if (k : Int) ∈ l then 0 else if (x : Int) = (k : Int) then 0 else if k = s.me then el s.since k else min (el s.since k + 1) s.pat := by
    intro k hk
    unfold roundA
    rw [hearsS_since okh (by rw [a1, t1, h.sites]; exact hk), hearZ_since okt (by rw [t1, h.sites]; exact hk), tickS_since h.ok (by rw [h.sites]; exact hk)]
  refine ⟨okr, b1.trans (a1.trans (t1.trans h.sites)), b2.trans (a2.trans (t2.trans h.hme)), b3.trans (a3.trans (t3.trans h.pat)), fun k hk hS _ => ?_, fun k hk hn => ?_⟩
  · rw [hs k hk]
    by_cases e1 : (k : Int) ∈ l
    · rw [if_pos e1]
    · rw [if_neg e1]
      by_cases e2 : (x : Int) = (k : Int)
      · rw [if_pos e2]
      · rw [if_neg e2]
        have e3 : k = me := by
          rcases hS with q | q | q
          · exact q
          · exact absurd (by omega) e2
          · exact absurd q e1
        rw [if_pos (by rw [h.hme]; exact e3), e3, ← h.hme]
        exact h.ok.mine
  · have hk2 := h.not k hk hn
    rw [hs k hk, if_neg (fun q => hn (.inr (.inr q))), if_neg (fun q => hn (.inr (.inl (by omega)))), if_neg (fun q => hn (.inl (by rw [q, h.hme]))), h.pat]
    omega
theorem Agr.zero {VL : List Int} {me x : Nat} {l : List Int} {s : Bv} (ok : s.Ok) (h1 : s.sites = VL) (h2 : s.me = me) (h3 : s.pat = 4) : Agr VL me x l 0 s :=
  ⟨ok, h1, h2, h3, fun _ _ _ h => absurd h (by decide), fun k hk _ => by have := (ok.since k (by rw [ok.len, h1]; exact hk)).1; omega⟩
theorem Agr.same {VL : List Int} {me x : Nat} {l : List Int} {s t : Bv} (h : Agr VL me x l 4 s) (g : Agr VL x me l 4 t) : upN s = upN t ∧ ∀ home, ordS s home = ordS t home := by
  have hu : upN s = upN t := by
    unfold upN
    congr 1
    unfold upB
    apply List.ext_getElem
    · rw [List.length_map, List.length_map, h.ok.len, g.ok.len, h.sites, g.sites]
    · intro k h1 h2
      rw [List.length_map] at h1 h2
      have hk : k < VL.length := by rw [← h.sites, ← h.ok.len]; exact h1
      rw [List.getElem_map, List.getElem_map, decide_eq_decide]
      have e1 : s.since[k] = el s.since k := by simp [el, h1]
      have e2 : t.since[k] = el t.since k := by simp [el, h2]
      rw [e1, e2, h.pat, g.pat]
      by_cases hS : k = me ∨ k = x ∨ (k : Int) ∈ l
      · rw [h.heard k hk hS (by decide), g.heard k hk (by rcases hS with q | q | q; exact .inr (.inl q); exact .inl q; exact .inr (.inr q)) (by decide)]
      · have q1 := h.not k hk hS
        have q2 := g.not k hk (fun q => hS (by rcases q with q | q | q; exact .inr (.inl q); exact .inl q; exact .inr (.inr q)))
        constructor
        · intro q
          omega
        · intro q
          omega
  refine ⟨hu, fun home => ?_⟩
  unfold ordS
  rw [hu, h.sites, g.sites]
theorem flatMap_len (f : Nat → List Int) (hf : ∀ k, (f k).length ≤ 12) : ∀ (l : List Nat), (l.flatMap f).length ≤ 12 * l.length
  | [] => by simp
  | k :: l => by
    have := flatMap_len f hf l
    have := hf k
    rw [List.flatMap_cons, List.length_append, List.length_cons]
    omega
theorem ord_len (s : Bv) (home : Int) : (ordS s home).length ≤ 1000000 := by
  have h1 : (homeL s.sites (upN s) home).length ≤ 12 := Nat.le_trans (List.length_filter_le _ _) (onesN_len _)
  have h2 := flatMap_len (siteL s.sites (upN s) home) (fun k => Nat.le_trans (List.length_filter_le _ _) (onesN_len _)) (List.range 12)
  unfold ordS ordL
  rw [List.length_append]
  rw [List.length_range] at h2
  omega
end Go.Proofs.YtmkhggfcgblefaaDoor
