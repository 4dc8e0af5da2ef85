/-
  Law: who leads (beat).
-/
import Derived.Test.YtmkhggfcgblefaaDoorBeatLaw2
namespace Go.Proofs.YtmkhggfcgblefaaDoor
open Go Go.RowKit Bin

theorem head_filter {p : Int → Bool} : ∀ {x : List Int} {j : Nat}, j < x.length → p (el x j) = true → (∀ i, i < j → p (el x i) = false) → el (x.filter p) 0 = el x j
  | [], _, h, _, _ => absurd h (Nat.not_lt_zero _)
  | a :: l, 0, _, h, _ => by
    have h' : p a = true := h
    rw [List.filter_cons_of_pos h']
    rfl
  | a :: l, j + 1, hj, h, hb => by
    have h' : p a = false := hb 0 (Nat.succ_pos _)
    rw [List.filter_cons_of_neg (by rw [h']; decide)]
    exact head_filter (x := l) (j := j) (by simpa using hj) h fun i hi => hb (i + 1) (Nat.succ_lt_succ hi)
theorem ord_filter {s S : Bv} (ok : s.Ok) (okS : S.Ok) (hs : s.sites = S.sites) (home : Int) (hin : ∀ z ∈ onesN (upN s), z ∈ ordS S home) : ordS s home = (ordS S home).filter fun z => decide (z ∈ onesN (upN s)) := by
  refine srt_one (ltN_irr s.sites home) (ltN_tr s.sites home) (ordL_srt _ _ _) ?_ fun z => ?_
  · rw [hs]
    exact List.Pairwise.filter _ (ordL_srt S.sites (upN S) home)
  · rw [ordS_mem ok, List.mem_filter]
    exact ⟨fun h => ⟨hin z h, decide_eq_true h⟩, fun h => of_decide_eq_true h.2⟩
theorem lead_first {s S : Bv} (ok : s.Ok) (okS : S.Ok) (hs : s.sites = S.sites) (home : Int) (hin : ∀ z ∈ onesN (upN s), z ∈ ordS S home) {j : Nat} (hj : j < (ordS S home).length) (hu : el (ordS S home) j ∈ onesN (upN s)) (hb : ∀ i, i < j → el (ordS S home) i ∉ onesN (upN s)) :
    el (ordS s home) 0 = el (ordS S home) j := by
  rw [ord_filter ok okS hs home hin]
  exact head_filter hj (decide_eq_true hu) fun i hi => decide_eq_false (hb i hi)
/-- Whoever is up is in x. -/
structure InX (VL x : List Int) (s : Bv) : Prop where
  ok : s.Ok
  sites : s.sites = VL
  inx : ∀ k, k < VL.length → el s.since k < s.pat → (k : Int) ∈ x
def UpIn (s : Bv) (x : List Int) (lo hi : Nat) : Prop := ∀ p, lo ≤ p → p < hi → el s.since (el x p).toNat = 0
theorem InX.tick {VL x : List Int} {s : Bv} (h : InX VL x s) : InX VL x (tickS s) := by
  refine ⟨h.ok.tick, (tickS_parts s).1.trans h.sites, fun k hk hlt => h.inx k hk ?_⟩
  have e := tickS_since h.ok (k := k) (by rw [h.sites]; exact hk)
  rw [e, (tickS_parts s).2.2.1] at hlt
  split at hlt
  · exact hlt
  · omega
theorem InX.hear {VL x : List Int} {s : Bv} (h : InX VL x s) {z : Int} (hz : z ∈ x) : InX VL x (hearZ s z) := by
  have hp := hearZ_parts s z
  refine ⟨h.ok.hearZ z, hp.1.trans h.sites, fun k hk hlt => ?_⟩
  rw [hearZ_since h.ok (by rw [h.sites]; exact hk), hp.2.2] at hlt
  split at hlt
  · rename_i e
    rw [← e]
    exact hz
  · exact h.inx k hk hlt
theorem UpIn.hear {VL x : List Int} {s : Bv} (h : InX VL x s) (hx : ∀ p, p < x.length → ∃ k : Nat, el x p = (k : Int) ∧ k < VL.length) {lo hi : Nat} (hhi : hi < x.length) (u : UpIn s x lo hi) : UpIn (hearZ s (el x hi)) x lo (hi + 1) := by
  intro p hl hp
  obtain ⟨k, e, hk⟩ := hx p (by omega)
  rw [e, Int.toNat_natCast, hearZ_since h.ok (by rw [h.sites]; exact hk)]
  split
  · rfl
  · rename_i hne
    have hq : p < hi := by
      rcases Nat.lt_or_ge p hi with q | q
      · exact q
      · exact absurd (by rw [← e, show p = hi by omega]) hne
    have := u p hl hq
    rw [e, Int.toNat_natCast] at this
    exact this
theorem InX.up {VL x : List Int} {s : Bv} (h : InX VL x s) : ∀ z ∈ onesN (upN s), z ∈ x := by
  intro z hz
  obtain ⟨i, rfl, hi, hu⟩ := ones_in h.ok hz
  exact h.inx i (by rw [← h.sites]; exact hi) hu
theorem ord_in {s : Bv} (ok : s.Ok) (home : Int) : ∀ p, p < (ordS s home).length → ∃ k : Nat, el (ordS s home) p = (k : Int) ∧ k < s.sites.length ∧ el s.since k < s.pat := by
  intro p hp
  obtain ⟨i, e, hi, hu⟩ := ones_in ok ((ordS_mem ok home _).1 (el_mem hp))
  exact ⟨i, e, hi, hu⟩
theorem InX.first {s : Bv} (ok : s.Ok) (home : Int) : InX s.sites (ordS s home) s :=
  ⟨ok, rfl, fun _ hk hu => (ordS_mem ok home _).2 (in_ones ok hk hu)⟩
theorem mem_ones {s : Bv} (ok : s.Ok) {k : Nat} (hk : k < s.sites.length) : (k : Int) ∈ onesN (upN s) ↔ el s.since k < s.pat := by
  refine ⟨fun h => ?_, in_ones ok hk⟩
  obtain ⟨i, e, hi, hu⟩ := ones_in ok h
  rw [show k = i by omega]
  exact hu
end Go.Proofs.YtmkhggfcgblefaaDoor
