/-
  Law: what is read of a table's bytes (once).
-/
import Derived.Test.YtmogpoghngmnmaaOnceSv
namespace Go.Proofs.Ytmogpoghngmnmaa
open Go Go.RowKit Bin

/-- A client that is read: the number that says whether it is busy, the client, the reader behind it. -/
def stepB (r : Rs) : Nat := uintV (uintS (uintS r))
def stepC (r : Rs) : Cl := ⟨uintV r, uintV (uintS r), decide (stepB r = 1), if stepB r = 1 then [] else textV (uintS (uintS (uintS r))) 200⟩
def stepS (r : Rs) : Rs := if stepB r = 1 then uintS (uintS (uintS r)) else textS (uintS (uintS (uintS r))) 200
def stepBad (r : Rs) (l : List Cl) : Prop := (stepS r).err ≠ 0 ∨ 1 < stepB r ∨ (stepC r).num = 0 ∨ posN l (stepC r).id < l.length
instance (r : Rs) (l : List Cl) : Decidable (stepBad r l) := by unfold stepBad; infer_instance
def loadN : Nat → Rs → List Cl → Option (Rs × List Cl)
  | 0, r, l => some (r, l)
  | n + 1, r, l => if stepBad r l then none else loadN n (stepS r) (l ++ [stepC r])
def loadH (b : List UInt8) : Nat × Nat × Rs := (uintV ⟨b, 0, 0⟩, uintV (uintS ⟨b, 0, 0⟩), uintS (uintS ⟨b, 0, 0⟩))
def headBad (b : List UInt8) : Prop := (loadH b).2.2.err ≠ 0 ∨ (loadH b).1 < 1 ∨ 64 < (loadH b).1 ∨ (loadH b).1 < (loadH b).2.1
instance (b : List UInt8) : Decidable (headBad b) := by unfold headBad; infer_instance
/-- The table of bytes. -/
def loadT (b : List UInt8) : Option Tb :=
  if headBad b then none else
  match loadN (loadH b).2.1 (loadH b).2.2 [] with
  | none => none
  | some (r, l) => if 0 < leftV r then none else some ⟨(loadH b).1, l, 0, 0⟩

theorem uint_stick {r : Rs} (h : r.err ≠ 0) : uintS r = r ∧ uintV r = 0 := by
  constructor
  · unfold uintS; rw [if_pos h]
  · unfold uintV; rw [if_neg (fun h' => h h'.1)]
theorem uintV_lt (r : Rs) : uintV r < 18446744073709551616 := by
  unfold uintV
  split
  · exact rdU_lt _ _
  · omega
theorem uint_good {b : List UInt8} {k : Nat} (hk : k ≤ b.length) (h : (uintS ⟨b, k, 0⟩).err = 0) :
    ∃ k' : Nat, uintS ⟨b, k, 0⟩ = ⟨b, k', 0⟩ ∧ k' ≤ b.length ∧ b.drop k = put (uintV ⟨b, k, 0⟩) ++ b.drop k' := by
  have he : (rdU b k).2.2 = 0 := by
    apply Classical.byContradiction
    intro hc
    unfold uintS at h
    rw [if_neg (by simp), if_pos hc] at h
    exact hc h
  have hv : uintV ⟨b, k, 0⟩ = (rdU b k).1 := by unfold uintV; rw [if_pos ⟨rfl, he⟩]
  have hs : uintS ⟨b, k, 0⟩ = ⟨b, (rdU b k).2.1, 0⟩ := by unfold uintS; rw [if_neg (by simp), if_neg (by simpa using he)]
  obtain ⟨h1, h2, h3, h4, h5⟩ := one_U (l := b) (at_ := k) (to := (rdU b k).2.1) (n := (rdU b k).1) (by rw [← he])
  refine ⟨(rdU b k).2.1.toNat, ?_, by omega, ?_⟩
  · rw [hs]
    congr 1
    omega
  · rw [hv, ← h4]
    rw [Int.toNat_natCast]
    have : b.drop (rdU b k).2.1.toNat = (b.drop k).drop ((rdU b k).2.1.toNat - k) := by
      rw [List.drop_drop]
      congr 1
      omega
    rw [this, List.take_append_drop]
theorem uint_err {r : Rs} (h : (uintS r).err = 0) : r.err = 0 := Classical.byContradiction fun hc => hc ((uint_stick hc).1 ▸ h)
theorem text_err {r : Rs} {m : Int} (h : (textS r m).err = 0) : r.err = 0 := Classical.byContradiction fun hc => by
  unfold textS at h
  rw [if_pos hc] at h
  exact hc h
theorem text_good {b : List UInt8} {k : Nat} (hk : k ≤ b.length) (h : (textS ⟨b, k, 0⟩ 200).err = 0) :
    ∃ k' : Nat, textS ⟨b, k, 0⟩ 200 = ⟨b, k', 0⟩ ∧ k' ≤ b.length ∧ b.drop k = put (textV ⟨b, k, 0⟩ 200).length ++ (textV ⟨b, k, 0⟩ 200 ++ b.drop k') ∧ (textV ⟨b, k, 0⟩ 200).length ≤ 200 := by
  have he : (rdB b k 200).2.2 = 0 := by
    apply Classical.byContradiction
    intro hc
    unfold textS at h
    rw [if_neg (by simp), if_pos hc] at h
    exact hc h
  have hv : textV ⟨b, k, 0⟩ 200 = (rdB b k 200).1 := by unfold textV; rw [if_pos ⟨rfl, he⟩]
  have hs : textS ⟨b, k, 0⟩ 200 = ⟨b, (rdB b k 200).2.1, 0⟩ := by unfold textS; rw [if_neg (by simp), if_neg (by simpa using he)]
  rw [hv, hs]
  unfold rdB at he ⊢
  split at he
  · rename_i h0; exact absurd he h0
  · rename_i h0
    have h0' : (rdU b k).2.2 = 0 := by simpa using h0
    split at he
    · simp at he
    · rename_i h1
      split at he
      · simp at he
      · rename_i h2
        rw [if_neg h0, if_neg h1, if_neg h2]
        obtain ⟨a1, a2, a3, a4, a5⟩ := one_U (l := b) (at_ := k) (to := (rdU b k).2.1) (n := (rdU b k).1) (by rw [← h0'])
        have hlen : ((b.drop (rdU b k).2.1.toNat).take (rdU b k).1).length = (rdU b k).1 := by rw [List.length_take, List.length_drop]; omega
        refine ⟨(rdU b k).2.1.toNat + (rdU b k).1, ?_, by omega, ?_, ?_⟩
        · dsimp only
          congr 1
          omega
        · dsimp only
          rw [hlen, ← a4, Int.toNat_natCast, ← List.drop_drop (l := b), List.take_append_drop]
          have : b.drop (rdU b k).2.1.toNat = (b.drop k).drop ((rdU b k).2.1.toNat - k) := by
            rw [List.drop_drop]
            congr 1
            omega
          rw [this, List.take_append_drop]
        · dsimp only
          rw [hlen]
          omega
theorem put0 : put 0 = [0] := rfl
theorem put1 : put 1 = [1] := rfl
theorem step_good {b : List UInt8} {k : Nat} (hk : k ≤ b.length) (h : (stepS ⟨b, k, 0⟩).err = 0) (hb : stepB ⟨b, k, 0⟩ ≤ 1) (hn : (stepC ⟨b, k, 0⟩).num ≠ 0) :
    ∃ k' : Nat, stepS ⟨b, k, 0⟩ = ⟨b, k', 0⟩ ∧ k' ≤ b.length ∧ b.drop k = saveC (stepC ⟨b, k, 0⟩) ++ b.drop k' ∧ (stepC ⟨b, k, 0⟩).ok := by
  have e3 : (uintS (uintS (uintS ⟨b, k, 0⟩))).err = 0 := by
    unfold stepS at h
    split at h
    · exact h
    · exact text_err h
  obtain ⟨k1, s1, l1, d1⟩ := uint_good hk (uint_err (uint_err e3))
  rw [s1] at e3
  obtain ⟨k2, s2, l2, d2⟩ := uint_good l1 (uint_err e3)
  rw [s2] at e3
  obtain ⟨k3, s3, l3, d3⟩ := uint_good l2 e3
  have hB : stepB ⟨b, k, 0⟩ = uintV ⟨b, k2, 0⟩ := by unfold stepB; rw [s1, s2]
  have hN : (stepC ⟨b, k, 0⟩).num = uintV ⟨b, k1, 0⟩ := by unfold stepC; rw [s1]
  have hI : (stepC ⟨b, k, 0⟩).id = uintV ⟨b, k, 0⟩ := rfl
  rw [← hI] at d1
  rw [← hN] at d2
  rw [← hB] at d3
  have hi := uintV_lt ⟨b, k, 0⟩
  have hn2 := uintV_lt ⟨b, k1, 0⟩
  rw [← hI] at hi
  rw [← hN] at hn2
  by_cases h1 : stepB ⟨b, k, 0⟩ = 1
  · have hS : stepS ⟨b, k, 0⟩ = ⟨b, k3, 0⟩ := by unfold stepS; rw [if_pos h1, s1, s2, s3]
    have hbu : (stepC ⟨b, k, 0⟩).busy = true := by unfold stepC; simp [h1]
    have hre : (stepC ⟨b, k, 0⟩).rep = [] := by unfold stepC; simp [h1]
    refine ⟨k3, hS, l3, ?_, ⟨hi, ⟨by omega, hn2⟩, by rw [hre]; simp, fun _ => hre⟩⟩
    unfold saveC
    rw [if_pos hbu, d1, d2, d3, h1, put1]
    simp
  · have h0 : stepB ⟨b, k, 0⟩ = 0 := by omega
    have hT : stepS ⟨b, k, 0⟩ = textS ⟨b, k3, 0⟩ 200 := by unfold stepS; rw [if_neg h1, s1, s2, s3]
    rw [hT] at h ⊢
    obtain ⟨k4, s4, l4, d4, hl⟩ := text_good l3 h
    have hbu : (stepC ⟨b, k, 0⟩).busy = false := by unfold stepC; simp [h1]
    have hre : (stepC ⟨b, k, 0⟩).rep = textV ⟨b, k3, 0⟩ 200 := by unfold stepC; rw [s1, s2, s3]; simp [h1]
    rw [← hre] at d4 hl
    refine ⟨k4, s4, l4, ?_, ⟨hi, ⟨by omega, hn2⟩, hl, fun hc => by rw [hbu] at hc; cases hc⟩⟩
    unfold saveC
    rw [if_neg (by rw [hbu]; decide), d1, d2, d3, h0, put0, d4]
    simp
theorem loadN_good {b : List UInt8} : ∀ (n k : Nat) (l l' : List Cl) (r : Rs), k ≤ b.length → (l.map Cl.id).Nodup → loadN n ⟨b, k, 0⟩ l = some (r, l') →
    ∃ (k' : Nat) (m : List Cl), r = ⟨b, k', 0⟩ ∧ k' ≤ b.length ∧ l' = l ++ m ∧ m.length = n ∧ b.drop k = saveL m ++ b.drop k' ∧ (∀ c ∈ m, c.ok) ∧ (l'.map Cl.id).Nodup
  | 0, k, l, l', r, hk, hn, h => by
    unfold loadN at h
    obtain ⟨rfl, rfl⟩ : (⟨b, (k : Int), 0⟩ : Rs) = r ∧ l = l' := by simpa using h
    exact ⟨k, [], rfl, hk, by simp, rfl, by simp [saveL], by simp, hn⟩
  | n + 1, k, l, l', r, hk, hn, h => by
    unfold loadN at h
    split at h
    · cases h
    · rename_i hb
      unfold stepBad at hb
      have hb1 : (stepS ⟨b, k, 0⟩).err = 0 := Classical.byContradiction fun hc => hb (.inl hc)
      have hb2 : stepB ⟨b, k, 0⟩ ≤ 1 := Nat.le_of_not_lt fun hc => hb (.inr (.inl hc))
      have hb3 : (stepC ⟨b, k, 0⟩).num ≠ 0 := fun hc => hb (.inr (.inr (.inl hc)))
      have hb4 : ¬ posN l (stepC ⟨b, k, 0⟩).id < l.length := fun hc => hb (.inr (.inr (.inr hc)))
      obtain ⟨k1, s1, l1, d1, hok⟩ := step_good hk hb1 hb2 hb3
      rw [s1] at h
      have hn1 : ((l ++ [stepC ⟨b, k, 0⟩]).map Cl.id).Nodup := by
        rw [List.map_append, List.nodup_append]
        refine ⟨hn, by simp, ?_⟩
        intro a ha c hc
        simp only [List.map_cons, List.map_nil, List.mem_singleton] at hc
        subst hc
        exact fun e => pos_no hb4 (e ▸ ha)
      obtain ⟨k2, m, e1, e2, e3, e4, e5, e6, e7⟩ := loadN_good n k1 _ l' r l1 hn1 h
      refine ⟨k2, stepC ⟨b, k, 0⟩ :: m, e1, e2, by rw [e3]; simp, by simp [e4], ?_, ?_, e7⟩
      · rw [d1, e5, saveL_cons]
        simp
      · intro c hc
        rcases List.mem_cons.1 hc with rfl | hc
        · exact hok
        · exact e6 c hc
/-- What is read is what was written. -/
theorem load_one {b : List UInt8} {t : Tb} (h : loadT b = some t) : t.ok ∧ saveB t = b ∧ t.begun = 0 ∧ t.was = 0 := by
  unfold loadT at h
  split at h
  · cases h
  · rename_i hh
    unfold headBad at hh
    have h1 : (loadH b).2.2.err = 0 := Classical.byContradiction fun hc => hh (.inl hc)
    obtain ⟨k1, s1, l1, d1⟩ := uint_good (b := b) (k := 0) (Nat.zero_le _) (uint_err h1)
    have h1' : (uintS ⟨b, k1, 0⟩).err = 0 := by
      have : (loadH b).2.2 = uintS ⟨b, k1, 0⟩ := by unfold loadH; exact congrArg uintS s1
      rw [← this]
      exact h1
    obtain ⟨k2, s2, l2, d2⟩ := uint_good l1 h1'
    have e2 : (loadH b).2.1 = uintV ⟨b, k1, 0⟩ := by unfold loadH; exact congrArg uintV s1
    have e3 : (loadH b).2.2 = ⟨b, k2, 0⟩ := by
      have : (loadH b).2.2 = uintS ⟨b, k1, 0⟩ := by unfold loadH; exact congrArg uintS s1
      rw [this, s2]
    rw [e3] at h
    split at h
    · cases h
    · rename_i r l hl
      obtain ⟨k3, m, rfl, f2, hm9, f4, f5, f6, f7⟩ := loadN_good _ k2 [] l r l2 (by simp) hl
      rw [List.nil_append] at hm9
      subst hm9
      split at h
      · cases h
      · rename_i hlf
        obtain rfl : Tb.mk (loadH b).1 l 0 0 = t := by simpa using h
        have hk3 : k3 = b.length := by
          unfold leftV at hlf
          rw [if_neg (by simp)] at hlf
          dsimp only at hlf
          omega
        refine ⟨⟨by dsimp only; omega, by dsimp only; omega, f7, f6⟩, ?_, rfl, rfl⟩
        unfold saveB
        dsimp only
        rw [hk3, List.drop_length, List.append_nil] at f5
        rw [f4, e2, ← f5, ← d2]
        exact d1.symm

theorem uint_put {b rest : List UInt8} {k n : Nat} (hk : k ≤ b.length) (hn : n < 18446744073709551616) (h : b.drop k = put n ++ rest) :
    uintV ⟨b, k, 0⟩ = n ∧ ∃ k' : Nat, uintS ⟨b, k, 0⟩ = ⟨b, k', 0⟩ ∧ k' ≤ b.length ∧ b.drop k' = rest := by
  have hr : rdU b k = (n, (k : Int) + ((put n).length : Int), 0) := by
    have h1 := rdU_put hn (b.take k) rest (at_ := k) (by rw [List.length_take]; omega)
    rw [← h, List.take_append_drop] at h1
    exact h1
  have hl : b.length = k + ((put n).length + rest.length) := by
    have := congrArg List.length h
    rw [List.length_drop, List.length_append] at this
    omega
  refine ⟨by unfold uintV; rw [if_pos ⟨rfl, by rw [hr]⟩, hr], k + (put n).length, ?_, by omega, ?_⟩
  · unfold uintS
    rw [if_neg (by simp), if_neg (by rw [hr]; simp), hr]
    simp
  · rw [← List.drop_drop, h, List.drop_left]
theorem text_put {b s rest : List UInt8} {k : Nat} (hk : k ≤ b.length) (hs : s.length ≤ 200) (h : b.drop k = put s.length ++ (s ++ rest)) :
    textV ⟨b, k, 0⟩ 200 = s ∧ ∃ k' : Nat, textS ⟨b, k, 0⟩ 200 = ⟨b, k', 0⟩ ∧ k' ≤ b.length ∧ b.drop k' = rest := by
  have hr : rdU b k = (s.length, (k : Int) + ((put s.length).length : Int), 0) := by
    have h1 := rdU_put (n := s.length) (by omega) (b.take k) (s ++ rest) (at_ := k) (by rw [List.length_take]; omega)
    rw [← h, List.take_append_drop] at h1
    exact h1
  have hl : b.length = k + ((put s.length).length + (s.length + rest.length)) := by
    have := congrArg List.length h
    rw [List.length_drop, List.length_append, List.length_append] at this
    omega
  have hd : b.drop (k + (put s.length).length) = s ++ rest := by rw [← List.drop_drop, h, List.drop_left]
  have hB : rdB b k 200 = (s, (k : Int) + ((put s.length).length : Int) + (s.length : Int), 0) := by
    unfold rdB
    rw [hr]
    dsimp only
    rw [if_neg (by simp), if_neg (by omega), if_neg (by omega)]
    rw [show ((k : Int) + ((put s.length).length : Int)).toNat = k + (put s.length).length by omega, hd, List.take_left]
  refine ⟨by unfold textV; rw [if_pos ⟨rfl, by rw [hB]⟩, hB], k + (put s.length).length + s.length, ?_, by omega, ?_⟩
  · unfold textS
    rw [if_neg (by simp), if_neg (by rw [hB]; simp), hB]
    simp
  · rw [← List.drop_drop, hd, List.drop_left]
theorem step_put {b rest : List UInt8} {k : Nat} {c : Cl} (hk : k ≤ b.length) (hc : c.ok) (h : b.drop k = saveC c ++ rest) :
    stepC ⟨b, k, 0⟩ = c ∧ stepB ⟨b, k, 0⟩ ≤ 1 ∧ ∃ k' : Nat, stepS ⟨b, k, 0⟩ = ⟨b, k', 0⟩ ∧ k' ≤ b.length ∧ b.drop k' = rest := by
  unfold saveC at h
  obtain ⟨v1, k1, s1, l1, d1⟩ := uint_put hk hc.id (by rw [h, List.append_assoc])
  obtain ⟨v2, k2, s2, l2, d2⟩ := uint_put l1 hc.num.2 (by rw [d1, List.append_assoc])
  cases hb : c.busy with
  | true =>
    rw [if_pos hb] at d2
    obtain ⟨v3, k3, s3, l3, d3⟩ := uint_put (n := 1) l2 (by omega) (by rw [d2]; rfl)
    have hB : stepB ⟨b, k, 0⟩ = 1 := by unfold stepB; rw [s1, s2, v3]
    have hS : stepS ⟨b, k, 0⟩ = ⟨b, k3, 0⟩ := by unfold stepS; rw [if_pos hB, s1, s2, s3]
    refine ⟨?_, by omega, k3, hS, l3, d3⟩
    unfold stepC
    rw [s1, v1, v2, hB]
    have := hc.busy hb
    cases c
    simp_all
  | false =>
    rw [if_neg (by rw [hb]; decide)] at d2
    obtain ⟨v3, k3, s3, l3, d3⟩ := uint_put (n := 0) l2 (by omega) (by rw [d2]; rfl)
    have hB : stepB ⟨b, k, 0⟩ = 0 := by unfold stepB; rw [s1, s2, v3]
    obtain ⟨v4, k4, s4, l4, d4⟩ := text_put l3 hc.rep (by rw [d3]; exact List.append_assoc _ _ _)
    have hS : stepS ⟨b, k, 0⟩ = ⟨b, k4, 0⟩ := by unfold stepS; rw [if_neg (by omega), s1, s2, s3, s4]
    refine ⟨?_, by omega, k4, hS, l4, d4⟩
    unfold stepC
    rw [hB, s1, s2, s3, v1, v2, if_neg (by omega), v4]
    cases c
    simp_all
theorem loadN_put {b : List UInt8} : ∀ (m : List Cl) (rest : List UInt8) (k : Nat) (l : List Cl), k ≤ b.length → (∀ c ∈ m, c.ok) → ((l ++ m).map Cl.id).Nodup → b.drop k = saveL m ++ rest →
    ∃ k' : Nat, loadN m.length ⟨b, k, 0⟩ l = some (⟨b, k', 0⟩, l ++ m) ∧ k' ≤ b.length ∧ b.drop k' = rest
  | [], rest, k, l, hk, _, _, h => ⟨k, by simp [loadN], hk, by simpa [saveL] using h⟩
  | c :: m, rest, k, l, hk, hc, hn, h => by
    rw [saveL_cons, List.append_assoc] at h
    have hck := hc c (by simp)
    obtain ⟨e1, e2, k1, s1, l1, d1⟩ := step_put hk hck h
    have hnb : ¬ stepBad ⟨b, k, 0⟩ l := by
      unfold stepBad
      rw [s1, e1]
      rintro (h1 | h1 | h1 | h1)
      · exact h1 rfl
      · omega
      · have := hck.num.1
        omega
      · have h2 := pos_at h1
        rw [List.map_append, List.nodup_append] at hn
        exact hn.2.2 (el l (posN l c.id)).id (List.mem_map.2 ⟨_, el_mem h1, rfl⟩) c.id (by simp) h2
    obtain ⟨k2, f1, f2, f3⟩ := loadN_put m rest k1 (l ++ [c]) l1 (fun x hx => hc x (by simp [hx])) (by simpa using hn) d1
    refine ⟨k2, ?_, f2, f3⟩
    rw [List.length_cons]
    unfold loadN
    rw [if_neg hnb, s1, e1, f1]
    simp
/-- What was written is read. -/
theorem load_back {t : Tb} (h : t.ok) : loadT (saveB t) = some ⟨t.most, t.l, 0, 0⟩ := by
  have hm := h.most
  have hl := h.len
  obtain ⟨v1, k1, s1, l1, d1⟩ := uint_put (b := saveB t) (k := 0) (n := t.most) (rest := put t.l.length ++ saveL t.l) (Nat.zero_le _) (by omega) rfl
  obtain ⟨v2, k2, s2, l2, d2⟩ := uint_put (n := t.l.length) l1 (by omega) d1
  obtain ⟨k3, f1, f2, f3⟩ := loadN_put t.l [] k2 [] l2 h.each (by simpa using h.nodup) (by rw [d2, List.append_nil])
  have e1 : (loadH (saveB t)).1 = t.most := v1
  have e2 : (loadH (saveB t)).2.1 = t.l.length := by unfold loadH; exact (congrArg uintV s1).trans v2
  have e3 : (loadH (saveB t)).2.2 = ⟨saveB t, k2, 0⟩ := by unfold loadH; exact (congrArg uintS s1).trans s2
  have hk3 : k3 = (saveB t).length := by
    have := congrArg List.length f3
    rw [List.length_drop, List.length_nil] at this
    omega
  unfold loadT
  rw [if_neg (by unfold headBad; rw [e1, e2, e3]; dsimp only; omega), e1, e2, e3, f1]
  dsimp only
  rw [if_neg (by unfold leftV; rw [if_neg (by simp), hk3]; dsimp only; omega)]
  simp
end Go.Proofs.Ytmogpoghngmnmaa
