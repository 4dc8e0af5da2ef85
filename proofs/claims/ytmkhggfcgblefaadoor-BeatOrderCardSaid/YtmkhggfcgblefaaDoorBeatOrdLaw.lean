/-
  Law: an order has each that is up once, those of the home site first (beat).
-/
import Derived.Test.YtmkhggfcgblefaaDoorBeatView
import Derived.Test.YtmkhggfcgblefaaDoorBeatLaw2
namespace Go.Proofs.YtmkhggfcgblefaaDoor
open Go Go.RowKit Bin

def SetP (l : List Int) (n : Nat) : Prop := n < 4096 ∧ ∀ k : Nat, k < 12 → (n / 2 ^ k % 2 = 1 ↔ (k : Int) ∈ l)
theorem bit_iff (m j : Nat) : m / 2 ^ j % 2 = 1 ↔ m.testBit j = true := by
  rw [Nat.testBit_eq_decide_div_mod_eq, decide_eq_true_eq]
theorem setP_nil : SetP [] 0 := ⟨by decide, fun k _ => by simp⟩
theorem setP_or {l : List Int} {n k : Nat} (h : SetP l n) (hk : k < 12) : SetP (l ++ [(k : Int)]) (n ||| 2 ^ k) := by
  refine ⟨Nat.or_lt_two_pow (n := 12) h.1 (Nat.pow_lt_pow_right (by decide) hk), fun j hj => ?_⟩
  have e := h.2 j hj
  rw [bit_iff] at e ⊢
  rw [Nat.testBit_or, Bool.or_eq_true, e, Nat.testBit_two_pow, List.mem_append, List.mem_singleton, decide_eq_true_eq]
  constructor
  · rintro (q | q)
    · exact .inl q
    · exact .inr (by omega)
  · rintro (q | q)
    · exact .inl q
    · exact .inr (by omega)
theorem setP_up {s : Bv} (ok : s.Ok) (home : Int) {n : Nat} (h : SetP (ordS s home) n) : n = upN s := by
  have hu := upN_lt ok
  refine Nat.eq_of_testBit_eq fun j => ?_
  rcases Nat.lt_or_ge j 12 with q | q
  · have e := h.2 j q
    rw [ordS_mem ok, onesN_mem] at e
    rw [Bool.eq_iff_iff, ← bit_iff, ← bit_iff, e]
    constructor
    · rintro ⟨i, _, hi, hij⟩
      rw [show j = i by omega]
      exact hi
    · intro hi
      exact ⟨j, q, hi, rfl⟩
  · have h12 : 2 ^ 12 ≤ 2 ^ j := Nat.pow_le_pow_right (by decide) q
    rw [Nat.testBit_lt_two_pow (Nat.lt_of_lt_of_le h.1 h12), Nat.testBit_lt_two_pow (Nat.lt_of_lt_of_le hu h12)]
theorem or_set (n k : Nat) (hn : n < 4096) (hk : k < 12) : bits .or .u32 (n : Int) ((2 ^ k : Nat) : Int) = ((n ||| 2 ^ k : Nat) : Int) := by
  have h1 : 2 ^ k < 2 ^ 12 := Nat.pow_lt_pow_right (by decide) hk
  rw [orU32 _ _ (by omega) (by omega)]
theorem srt_get {lt : Int → Int → Prop} {x : List Int} (h : Srt lt x) {p i : Nat} (hp : p < i) (hi : i < x.length) : lt (el x p) (el x i) := by
  have e1 : el x p = x[p]'(by omega) := by simp [el, show p < x.length by omega]
  have e2 : el x i = x[i] := by simp [el, hi]
  rw [e1, e2]
  exact List.pairwise_iff_getElem.1 h p i (by omega) hi hp
theorem not_before {S : Bv} (home : Int) {i : Nat} (hi : i < (ordS S home).length) : el (ordS S home) i ∉ (ordS S home).take i := by
  intro hm
  obtain ⟨p, hp, e⟩ := List.mem_iff_getElem.1 hm
  rw [List.length_take] at hp
  rw [List.getElem_take] at e
  have h1 := srt_get (ordL_srt S.sites (upN S) home) (p := p) (i := i) (by omega) hi
  have e1 : el (ordL S.sites (upN S) home) p = el (ordS S home) i := by
    rw [← e]
    show el (ordS S home) p = _
    simp [el, show p < (ordS S home).length by omega]
  rw [e1] at h1
  exact ltN_irr _ _ _ h1
theorem away_after {S : Bv} (home : Int) {p i : Nat} (hp : p < i) (hi : i < (ordS S home).length) (h : siteOf S.sites (el (ordS S home) p) ≠ home) : siteOf S.sites (el (ordS S home) i) ≠ home := by
  have h1 := srt_get (ordL_srt S.sites (upN S) home) (p := p) (i := i) hp hi
  intro e
  rw [ltN_iff] at h1
  have h1' : awayZ (siteOf S.sites (el (ordS S home) p)) home < awayZ (siteOf S.sites (el (ordS S home) i)) home ∨ awayZ (siteOf S.sites (el (ordS S home) p)) home = awayZ (siteOf S.sites (el (ordS S home) i)) home := by
    rcases h1 with q | q
    · exact .inl q
    · exact .inr q.1
  unfold awayZ at h1'
  rw [if_neg h, if_pos e] at h1'
  omega
theorem view_site {sites : List Int} {k : Nat} (hk : k < (viewL sites).length) : (0 < sites.length → el (viewL sites) k = wrapZ (el sites k) 12 ∧ k < sites.length) ∧ (¬ 0 < sites.length → el (viewL sites) k = min (k : Int) 1) := by
  constructor
  · intro h0
    have hne : sites ≠ [] := List.length_pos_iff.1 h0
    have e : viewL sites = viewM sites 12 := by unfold viewL; rw [if_neg hne]
    rw [e] at hk ⊢
    unfold viewM at hk ⊢
    rw [List.length_map, List.length_take] at hk
    refine ⟨?_, by omega⟩
    unfold el
    rw [List.getElem?_map, List.getElem?_take_of_lt (by omega), List.getElem?_eq_getElem (by omega)]
    rfl
  · intro h0
    have he : sites = [] := List.length_eq_zero_iff.1 (by omega)
    subst he
    have hk3 : k < 3 := hk
    have : k = 0 ∨ k = 1 ∨ k = 2 := by omega
    rcases this with rfl | rfl | rfl <;> decide
end Go.Proofs.YtmkhggfcgblefaaDoor
