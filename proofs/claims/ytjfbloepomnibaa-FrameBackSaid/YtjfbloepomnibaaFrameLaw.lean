/-
  Frames in plain terms: what was put stands there; one byte turned is told.
-/
import Derived.Test.YtjfbloepomnibaaFrame4
namespace Go.Proofs.Ytjfbloepomnibaa
open Go Go.RowKit Crc Bin

theorem be4_fixed {n : Nat} (hn : n < 4294967296) : be4 (UInt8.ofNat (n / 16777216 % 256)) (UInt8.ofNat (n / 65536 % 256)) (UInt8.ofNat (n / 256 % 256)) (UInt8.ofNat (n % 256)) = n := by
  unfold be4
  rw [u8_toNat (Nat.mod_lt _ (by decide)), u8_toNat (Nat.mod_lt _ (by decide)), u8_toNat (Nat.mod_lt _ (by decide)), u8_toNat (Nat.mod_lt _ (by decide))]
  omega
theorem rdF_fixed {n : Nat} (hn : n < 4294967296) (a r : List UInt8) {at_ : Int} (h : at_ = (a.length : Int)) : rdF (a ++ (fixed n ++ r)) at_ = (n, at_ + 4, 0) := by
  subst h
  unfold rdF
  rw [if_neg (by rw [List.length_append]; omega), Int.toNat_natCast, List.drop_left]
  simp only [fixed, List.cons_append, List.nil_append, be4_fixed hn]

theorem getR_put (k : UInt8) (l : List UInt8) (h : l.length ≤ 1024) (r : List UInt8) : getR (headG k l ++ (fixed (crc (headG k l)) ++ r)) = (k, l, l.length + 10, 0) := by
  obtain ⟨c, hc⟩ : ∃ c, c = crc (headG k l) := ⟨_, rfl⟩
  have hcl : c < 4294967296 := hc ▸ crc_lt _
  obtain ⟨X, hX⟩ : ∃ X, X = headG k l ++ (fixed (crc (headG k l)) ++ r) := ⟨_, rfl⟩
  have hX2 : X = [167, k] ++ (fixed l.length ++ (l ++ (fixed c ++ r))) := by rw [hX, hc]; simp [headG]
  have hlen : X.length = l.length + 10 + r.length := by rw [hX, List.length_append, List.length_append, headG_length]; simp [fixed]; omega
  have f1 : rdF X 2 = (l.length, 2 + 4, 0) := by rw [hX2]; exact rdF_fixed (by omega) [167, k] _ rfl
  have f2 : (rdF X (6 + (l.length : Int))).1 = c := by
    rw [hX, ← hc, rdF_fixed hcl (headG k l) r (by rw [headG_length]; omega)]
  have f3 : X.take (6 + l.length) = headG k l := by
    rw [hX, show 6 + l.length = (headG k l).length by rw [headG_length]; omega, List.take_left]
  have f4 : (X.drop 6).take l.length = l := by
    have e : X = ([167, k] ++ fixed l.length) ++ (l ++ (fixed c ++ r)) := by rw [hX2]; simp
    rw [e, show 6 = ([167, k] ++ fixed l.length).length by simp [fixed], List.drop_left, List.take_left]
  have f5 : X[0]? = some 167 := by rw [hX2]; rfl
  have f6 : X[1]? = some k := by rw [hX2]; rfl
  rw [← hX]
  unfold getR
  rw [if_neg (by omega), if_neg (by rw [f5]; simp), if_neg (by omega)]
  simp only [f1]
  rw [if_neg (by omega), if_neg (by omega), f2, f3, if_neg (by rw [hc]; simp), f6, f4]
  rfl

theorem getG_put (a : List UInt8) (k : UInt8) (l : List UInt8) (h : l.length ≤ 1024) (r : List UInt8) {at_ : Int} (hat : at_ = (a.length : Int)) :
    getG (a ++ (putG k l ++ r)) at_ = (k, l, at_ + ((l.length + 10 : Nat) : Int), 0) := by
  subst hat
  refine getG_ok (by omega) (by rw [List.length_append]; omega) ?_
  rw [Int.toNat_natCast, List.drop_left]
  unfold putG
  rw [if_neg (by omega), List.append_assoc]
  exact getR_put k l h r

theorem getG_mark {b : List UInt8} {i : Nat} {x : UInt8} (hx : b[i]? = some x) (hne : x ≠ 167) : getG b (i : Int) = (0, [], 0, 20) := by
  have hi : i < b.length := (List.getElem?_eq_some_iff.1 hx).1
  refine getG_bad (e := 20) (by omega) (by omega) ?_ (by omega)
  rw [Int.toNat_natCast]
  unfold getR
  rw [if_neg (by rw [List.length_drop]; omega), if_pos (by rw [List.getElem?_drop, Nat.add_zero, hx]; exact hne)]

/-- Behind bytes of which none is a frame's first one the frame is found. -/
theorem seekG_put (a : List UInt8) (k : UInt8) (l : List UInt8) (h : l.length ≤ 1024) (ha : ∀ (j : Nat) (x : UInt8), a[j]? = some x → x ≠ 167) (r : List UInt8) {from_ : Int} (hf : from_ ≤ a.length) :
    seekG (a ++ (putG k l ++ r)) from_ = a.length := by
  have hl : (a ++ (putG k l ++ r)).length = a.length + (l.length + 10) + r.length := by rw [List.length_append, List.length_append, putG_length h]; omega
  have key : ∀ (d i : Nat), i + d = a.length → seekN (a ++ (putG k l ++ r)) (((a ++ (putG k l ++ r)).length : Int) - (i : Int)).toNat = a.length := by
    intro d
    induction d with
    | zero =>
      intro i hi
      have := seekN_here (l := a ++ (putG k l ++ r)) (i := (i : Int)) (by rw [hl]; omega) (by rw [getG_put a k l h r (by omega)])
      rw [this]
      omega
    | succ d ih =>
      intro i hi
      have hx : (a ++ (putG k l ++ r))[i]? = some a[i] := by rw [List.getElem?_append_left (by omega), List.getElem?_eq_getElem (by omega)]
      rw [seekN_next (l := a ++ (putG k l ++ r)) (i := (i : Int)) (by rw [hl]; omega) (by rw [getG_mark hx (ha i _ (List.getElem?_eq_getElem (by omega)))]; decide)]
      exact ih (i + 1) (by omega)
  have := key (a.length - (max from_ 0).toNat) (max from_ 0).toNat (by omega)
  unfold seekG
  rw [show max from_ 0 = (((max from_ 0).toNat : Nat) : Int) by omega]
  exact this
theorem seekN_range (l : List UInt8) : ∀ n, n ≤ l.length → 0 ≤ seekN l n ∧ seekN l n ≤ l.length
  | 0, _ => by simp [seekN]
  | n + 1, h => by
    rw [seekN]
    split
    · omega
    · exact seekN_range l n (by omega)
theorem seekG_range (l : List UInt8) (at_ : Int) : 0 ≤ seekG l at_ ∧ seekG l at_ ≤ l.length := seekN_range l _ (by omega)
theorem seekG_end (l : List UInt8) : seekG l (l.length : Int) = l.length := by
  unfold seekG
  exact seekN_end (by omega)

/-- One byte of the body, or of the sum, turned. -/
theorem getR_turned (k : UInt8) (l : List UInt8) (h : l.length ≤ 1024) (j : Nat) (hj : j < l.length + 4) (y : UInt8) (hy : (putG k l)[6 + j]? ≠ some y) : getR ((putG k l).set (6 + j) y) = (0, [], 0, 21) := by
  obtain ⟨c, hc⟩ : ∃ c, c = crc (headG k l) := ⟨_, rfl⟩
  have hcl : c < 4294967296 := hc ▸ crc_lt _
  have hh := headG_length k l
  have hP : putG k l = headG k l ++ fixed c := by unfold putG; rw [if_neg (by omega), hc]
  obtain ⟨X, hX⟩ : ∃ X, X = (putG k l).set (6 + j) y := ⟨_, rfl⟩
  have hlen : X.length = l.length + 10 := by rw [hX, List.length_set, putG_length h]
  have hget : ∀ i, i ≠ 6 + j → X[i]? = (putG k l)[i]? := fun i hi => by rw [hX, List.getElem?_set, if_neg (by omega)]
  have hP2 : putG k l = [167, k] ++ (fixed l.length ++ (l ++ fixed c)) := by rw [hP]; simp [headG]
  have hrd : ∀ (i : Nat), i + 4 ≤ l.length + 10 → (∀ d, d < 4 → X[i + d]? = (putG k l)[i + d]?) → (rdF X (i : Int)).1 = (rdF (putG k l) (i : Int)).1 := fun i hi he => by
    have hpl := putG_length (k := k) h
    rw [rdF_ok (by omega) (by omega), rdF_ok (by omega) (by omega)]
    simp only [Int.toNat_natCast]
    have e : ∀ d (hd : d < 4), X[i + d]'(by omega) = (putG k l)[i + d]'(by omega) := fun d hd => by
      have := he d hd
      rw [List.getElem?_eq_getElem (by omega), List.getElem?_eq_getElem (by omega)] at this
      exact Option.some.inj this
    rw [e 1 (by omega), e 2 (by omega), e 3 (by omega), show X[i]'(by omega) = (putG k l)[i]'(by omega) from e 0 (by omega)]
  have f1 : (rdF X 2).1 = l.length := by
    have := hrd 2 (by omega) (fun d hd => hget _ (by omega))
    rw [show ((2 : Nat) : Int) = 2 from rfl] at this
    rw [this, hP2, rdF_fixed (by omega) [167, k] _ (at_ := 2) rfl]
  have f5 : X[0]? = some 167 := by rw [hget 0 (by omega), hP2]; rfl
  have hne : (rdF X (6 + (l.length : Int))).1 ≠ crc (X.take (6 + l.length)) := by
    by_cases hjl : j < l.length
    · have e1 : (rdF X (6 + (l.length : Int))).1 = c := by
        have := hrd (6 + l.length) (by omega) (fun d hd => hget _ (by omega))
        rw [show ((6 + l.length : Nat) : Int) = 6 + (l.length : Int) by omega] at this
        rw [this, hP, show headG k l ++ fixed c = headG k l ++ (fixed c ++ []) by simp, rdF_fixed hcl _ _ (by rw [hh]; omega)]
      have e2 : X.take (6 + l.length) = (headG k l).set (6 + j) y := by
        rw [hX, hP, List.set_append, if_pos (by omega), List.take_append_of_le_length (by rw [List.length_set]; omega), List.take_of_length_le (by rw [List.length_set]; omega)]
      rw [e1, e2, hc]
      intro heq
      have hlt : 6 + j < (headG k l).length := by omega
      have s1 : headG k l = (headG k l).take (6 + j) ++ (headG k l)[6 + j] :: (headG k l).drop (6 + j + 1) := by
        rw [← List.drop_eq_getElem_cons hlt, List.take_append_drop]
      have s2 : (headG k l).set (6 + j) y = (headG k l).take (6 + j) ++ y :: (headG k l).drop (6 + j + 1) := List.set_eq_take_append_cons_drop ▸ by rw [if_pos hlt]
      rw [s2] at heq
      have heq2 : crc ((headG k l).take (6 + j) ++ (headG k l)[6 + j] :: (headG k l).drop (6 + j + 1)) = crc ((headG k l).take (6 + j) ++ y :: (headG k l).drop (6 + j + 1)) := by rw [← s1]; exact heq
      have := crc_turned heq2
      refine hy ?_
      rw [hP, List.getElem?_append_left hlt, List.getElem?_eq_getElem hlt, this]
    · obtain ⟨i, rfl⟩ : ∃ i, j = l.length + i := ⟨j - l.length, by omega⟩
      have e2 : X.take (6 + l.length) = headG k l := by
        rw [hX, hP, List.set_append, if_neg (by omega), show 6 + l.length = (headG k l).length by omega, List.take_left]
      have e3 : X = headG k l ++ (fixed c).set i y := by
        rw [hX, hP, List.set_append, if_neg (by omega), hh, show 6 + (l.length + i) - (l.length + 6) = i by omega]
      rw [e2, ← hc]
      have hy2 : (fixed c)[i]? ≠ some y := by
        intro h0
        refine hy ?_
        rw [hP, List.getElem?_append_right (by omega), hh, show 6 + (l.length + i) - (l.length + 6) = i by omega]
        exact h0
      have hb0 := u8_toNat (Nat.mod_lt (c / 16777216) (show 0 < 256 by decide))
      have hb1 := u8_toNat (Nat.mod_lt (c / 65536) (show 0 < 256 by decide))
      have hb2 := u8_toNat (Nat.mod_lt (c / 256) (show 0 < 256 by decide))
      have hb3 := u8_toNat (Nat.mod_lt c (show 0 < 256 by decide))
      have e4 : (rdF X (6 + (l.length : Int))).1 = (rdF ((fixed c).set i y) 0).1 := by
        have := rdF_drop (l := X) (at_ := ((headG k l).length : Int)) (k := 0) (by omega) (by omega) (by omega)
        rw [Int.toNat_natCast, Int.add_zero, e3, List.drop_left] at this
        rw [e3, show (6 + (l.length : Int)) = ((headG k l).length : Int) by omega, this]
      rw [e4]
      have hyl := UInt8.toNat_lt y
      have hi4 : i = 0 ∨ i = 1 ∨ i = 2 ∨ i = 3 := by omega
      rcases hi4 with rfl | rfl | rfl | rfl
      · intro heq
        refine hy2 (congrArg some (UInt8.toNat_inj.1 ?_))
        simp only [fixed, List.set_cons_zero, rdF, be4] at heq
        simp at heq
        omega
      · intro heq
        refine hy2 (congrArg some (UInt8.toNat_inj.1 ?_))
        simp only [fixed, List.set_cons_zero, List.set_cons_succ, rdF, be4] at heq
        simp at heq
        omega
      · intro heq
        refine hy2 (congrArg some (UInt8.toNat_inj.1 ?_))
        simp only [fixed, List.set_cons_zero, List.set_cons_succ, rdF, be4] at heq
        simp at heq
        omega
      · intro heq
        refine hy2 (congrArg some (UInt8.toNat_inj.1 ?_))
        simp only [fixed, List.set_cons_zero, List.set_cons_succ, rdF, be4] at heq
        simp at heq
        omega
  rw [← hX]
  unfold getR
  rw [if_neg (by omega), if_neg (by rw [f5]; simp), if_neg (by omega), f1, if_neg (by omega), if_neg (by omega), if_pos hne]
end Go.Proofs.Ytjfbloepomnibaa
