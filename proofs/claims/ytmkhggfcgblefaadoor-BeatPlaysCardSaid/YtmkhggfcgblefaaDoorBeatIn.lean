/-
  What arguments read as: a list of numbers; hears and ticks, one by one. (seat law14)
-/
import Derived.Test.YtmkhggfcgblefaaDoorKnown14
import Derived.Test.YtmkhggfcgblefaaDoorLift2
namespace Go.Proofs.YtmkhggfcgblefaaDoor
open Go Go.RowKit Go.ChangeShapes Go.WideShapes Go.ChangeAt Bin

theorem ints_in {H : Type} {enc : TypeId × Value → H} {W : World} {base : Nat} {v : Value} {d : DataW H} {ps : List MemPlace} (hv : Value.okWide Tryd.prog W .any base 22 v)
    (h : DataW.Trod enc Tryd.prog W 0 (fun _ => true) true 22 v d ps) : ∃ A l cap, v = .slice A (List.length l) cap ∧ RdL W intE A cap l ∧ (∀ z ∈ l, -9223372036854775808 ≤ z ∧ z ≤ 9223372036854775807) ∧ cap ≤ maxLen := by
  obtain ⟨fuel, x, h1, h⟩ := arg_slice Tryd.underlying22 hv h
  obtain ⟨A, l, cap, he, hR, hQ, hm⟩ := in_list (E := intE) (Q := fun z => -9223372036854775808 ≤ z ∧ z ≤ 9223372036854775807) Tryd.underlying22 (by kernel_rfl) (fun m cs x h => by
    obtain ⟨z, rfl, hz⟩ := in_i64 Tryd.underlying3 h
    exact ⟨z, rfl, hz⟩) h
  exact ⟨A, l, cap, by simpa using he, hR, hQ, hm⟩
/-- What a number does: below 0 a tick, else a beat. -/
def actS (s : Bv) (z : Int) : Bv := if z < 0 then tickS s else hearZ s z
def runS (s : Bv) (l : List Int) : Bv := l.foldl actS s
theorem Bv.Ok.act {s : Bv} (h : s.Ok) (z : Int) : (actS s z).Ok := by
  unfold actS
  split
  · exact h.tick
  · exact h.hearZ z
theorem runS_snoc (s : Bv) (l : List Int) (z : Int) : runS s (l ++ [z]) = actS (runS s l) z := by unfold runS; rw [List.foldl_append]; rfl
theorem Bv.Ok.run {s : Bv} (h : s.Ok) : ∀ (l : List Int), (runS s l).Ok := by
  intro l
  induction l generalizing s with
  | nil => exact h
  | cons z l ih => exact ih (h.act z)
theorem take_snocZ {l : List Int} {i : Nat} (h : i < l.length) : l.take (i + 1) = l.take i ++ [el l i] := by
  have e : el l i = l[i] := by simp [el, h]
  rw [e, List.take_succ_eq_append_getElem h]
theorem runS_take {s : Bv} {l : List Int} {i : Nat} (h : i < l.length) : runS s (l.take (i + 1)) = actS (runS s (l.take i)) (el l i) := by rw [take_snocZ h, runS_snoc]
theorem up_bit {s : Bv} (ok : s.Ok) {k : Nat} (hk : k < s.sites.length) : upN s / 2 ^ k % 2 = if el s.since k < s.pat then 1 else 0 := by
  unfold upN
  rw [bitsN_bit]
  unfold upB
  have hk2 : k < s.since.length := by rw [ok.len]; exact hk
  rw [List.getElem?_map, el_get hk2, Option.map_some]
  by_cases h : el s.since k < s.pat
  · rw [decide_eq_true h, if_pos rfl, if_pos h]
  · rw [decide_eq_false h, if_neg (by simp), if_neg h]
theorem shr_bit (n k : Nat) : (n : Int) / 2 ^ ((k : Int)).toNat = ((n / 2 ^ k : Nat) : Int) := by
  rw [Int.toNat_natCast]
  push_cast
  rfl
theorem and_one (n : Nat) (h : n < 4294967296) : bits .and .u32 (n : Int) 1 = ((n % 2 : Nat) : Int) := by
  have := andU32 n 1 h (by omega)
  rw [show n &&& 1 = n % 2 from Nat.and_two_pow_sub_one_eq_mod n 1] at this
  exact this
end Go.Proofs.YtmkhggfcgblefaaDoor
