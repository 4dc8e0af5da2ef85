/-
  Rules, laws and walks, part 2 of 11.
-/
import Derived.Test.YtlminileigfkcaaGreatFarA
import Derived.Test.YtlminileigfkcaaGreatProg
import Derived.Lib.AppendZerosOnto
import Derived.Laws.BitsAllLaws
import Derived.ChangeKeysEq
import Derived.Deep.AppendSrc
import Derived.Laws.IdiomStrings
import Derived.Laws.Externs
import Derived.Lib.Bytealg
namespace Go.Proofs.YtlminileigfkcaaGreat
namespace Bin
/-- How many bits. -/
def bl (n : Nat) : Nat := if n = 0 then 0 else n.log2 + 1
theorem bl_eq {n b : Nat} (h1 : 2 ^ b ≤ n) (h2 : n < 2 ^ (b + 1)) : bl n = b + 1 := by
 have hn : n ≠ 0 := by
  have := Nat.two_pow_pos b
  omega
 unfold bl
 rw [if_neg hn, (Nat.log2_eq_iff hn).2 ⟨h1, h2⟩]
theorem bl_pos {n : Nat} (h : n ≠ 0) : ∃ b, bl n = b + 1 ∧ 2 ^ b ≤ n ∧ n < 2 ^ (b + 1) := by
 have := (Nat.log2_eq_iff (n := n) (k := n.log2) h).1 rfl
 exact ⟨n.log2, by simp [bl, h], this.1, this.2⟩
theorem bl_div {n k : Nat} (h : 2 ^ k ≤ n) : bl n = k + bl (n / 2 ^ k) := by
 have hp := Nat.two_pow_pos k
 have hq : n / 2 ^ k ≠ 0 := by
  have := Nat.div_pos h hp
  omega
 obtain ⟨b, hb, h1, h2⟩ := bl_pos hq
 rw [hb]
 have h3 : 2 ^ (k + b) ≤ n := by
  rw [Nat.pow_add, Nat.mul_comm]
  exact (Nat.le_div_iff_mul_le hp).1 h1
 have h4 : n < 2 ^ (k + b + 1) := by
  rw [show k + b + 1 = k + (b + 1) by omega, Nat.pow_add, Nat.mul_comm]
  exact (Nat.div_lt_iff_lt_mul hp).1 h2
 rw [bl_eq h3 h4]
 omega
/-- The table of Len8. -/
def len8 : List UInt8 := [0, 1, 2, 2, 3, 3, 3, 3, 4, 4, 4, 4, 4, 4, 4, 4, 5, 5, 5, 5, 5, 5, 5, 5, 5, 5, 5, 5, 5, 5, 5, 5, 6, 6, 6, 6, 6, 6, 6, 6, 6, 6, 6, 6, 6, 6, 6, 6, 6, 6, 6, 6, 6, 6, 6, 6, 6, 6, 6, 6, 6, 6, 6, 6, 7, 7, 7, 7, 7, 7, 7, 7, 7, 7, 7, 7, 7, 7, 7, 7, 7, 7, 7, 7, 7, 7, 7, 7, 7, 7, 7, 7, 7, 7, 7, 7, 7, 7, 7, 7, 7, 7, 7, 7, 7, 7, 7, 7, 7, 7, 7, 7, 7, 7, 7, 7, 7, 7, 7, 7, 7, 7, 7, 7, 7, 7, 7, 7, 8, 8, 8, 8, 8, 8, 8, 8, 8, 8, 8, 8, 8, 8, 8, 8, 8, 8, 8, 8, 8, 8, 8, 8, 8, 8, 8, 8, 8, 8, 8, 8, 8, 8, 8, 8, 8, 8, 8, 8, 8, 8, 8, 8, 8, 8, 8, 8, 8, 8, 8, 8, 8, 8, 8, 8, 8, 8, 8, 8, 8, 8, 8, 8, 8, 8, 8, 8, 8, 8, 8, 8, 8, 8, 8, 8, 8, 8, 8, 8, 8, 8, 8, 8, 8, 8, 8, 8, 8, 8, 8, 8, 8, 8, 8, 8, 8, 8, 8, 8, 8, 8, 8, 8, 8, 8, 8, 8, 8, 8, 8, 8, 8, 8, 8, 8, 8, 8, 8, 8, 8, 8, 8, 8, 8, 8, 8, 8]
theorem len8_at : ∀ x, x < 256 → len8[x]? = some (UInt8.ofNat (bl x)) := by decide +kernel
theorem bl_lt : ∀ x, x < 256 → bl x ≤ 8 := by decide +kernel
/-- A number's bytes: seven bits each, the lowest first; a mark on all but the last. -/
def putF : Nat → Nat → List UInt8
 | 0, _ => []
 | f + 1, n => if n < 128 then [UInt8.ofNat n] else UInt8.ofNat (n % 128 + 128) :: putF f (n / 128)
def put (n : Nat) : List UInt8 := putF 10 n
/-- How many bytes. -/
def sz (n : Nat) : Nat := max 1 ((bl n + 6) / 7)
theorem sz_one {n : Nat} (h : n < 128) : sz n = 1 := by
 unfold sz
 by_cases h0 : n = 0
 ·subst h0; rfl
 ·obtain ⟨b, hb, h1, h2⟩ := bl_pos h0
  have : b < 7 := by
   refine Nat.lt_of_not_le fun hge => ?_
   have := Nat.pow_le_pow_right (show 0 < 2 by decide) hge
   omega
  rw [hb]
  omega
theorem sz_more {n : Nat} (h : 128 ≤ n) : sz n = sz (n / 128) + 1 := by
 have h1 := bl_div (k := 7) (n := n) h
 have h2 : n / 128 ≠ 0 := by omega
 obtain ⟨b, hb, _⟩ := bl_pos h2
 unfold sz
 rw [h1, show (2 : Nat) ^ 7 = 128 by rfl, hb]
 omega
/-- The bytes that the loop writes in its first k rounds. -/
def marked (n : Nat) : Nat → List UInt8
 | 0 => []
 | k + 1 => UInt8.ofNat (n % 128 + 128) :: marked (n / 128) k
theorem marked_length : ∀ (k n : Nat), (marked n k).length = k
 | 0, _ => rfl
 | k + 1, n => by simp [marked, marked_length k]
theorem marked_snoc : ∀ (k n : Nat), marked n (k + 1) = marked n k ++ [UInt8.ofNat (n / 128 ^ k % 128 + 128)]
 | 0, n => by simp [marked]
 | k + 1, n => by
   rw [marked, marked_snoc k (n / 128), marked, List.cons_append, Nat.div_div_eq_div_mul, ← Nat.pow_succ']
theorem putF_eq : ∀ (f n : Nat), n < 128 ^ f → 0 < f → putF f n = marked n (sz n - 1) ++ [UInt8.ofNat (n / 128 ^ (sz n - 1))] ∧ sz n ≤ f
 | 0, _, _, h => by omega
 | f + 1, n, hn, _ => by
   rw [putF]
   by_cases h : n < 128
   ·rw [if_pos h, sz_one h]
    simp [marked]
   ·rw [if_neg h, sz_more (by omega)]
    have hf : 0 < f := by
     rcases Nat.eq_zero_or_pos f with rfl | h0
     ·simp at hn; omega
     ·exact h0
    have h1 : n / 128 < 128 ^ f := by
     rw [Nat.pow_succ] at hn
     exact (Nat.div_lt_iff_lt_mul (by decide)).2 hn
    obtain ⟨h2, h3⟩ := putF_eq f (n / 128) h1 hf
    refine ⟨?_, by omega⟩
    have h4 : 1 ≤ sz (n / 128) := by unfold sz; omega
    rw [h2, show sz (n / 128) + 1 - 1 = (sz (n / 128) - 1) + 1 by omega, marked, Nat.pow_succ', ← Nat.div_div_eq_div_mul, List.cons_append]
theorem put_eq {n : Nat} (hn : n < 18446744073709551616) : put n = marked n (sz n - 1) ++ [UInt8.ofNat (n / 128 ^ (sz n - 1))] := (putF_eq 10 n (by omega) (by omega)).1
theorem sz_le {n : Nat} (hn : n < 18446744073709551616) : sz n ≤ 10 := (putF_eq 10 n (by omega) (by omega)).2
theorem sz_pos (n : Nat) : 1 ≤ sz n := by unfold sz; omega
theorem put_length {n : Nat} (hn : n < 18446744073709551616) : (put n).length = sz n := by
 rw [put_eq hn]
 have := sz_pos n
 simp [marked_length]
 omega
theorem top_lt : ∀ (s n : Nat), sz n = s → n / 128 ^ (s - 1) < 128
 | 0, n, h => by have := sz_pos n; omega
 | s + 1, n, h => by
   by_cases h1 : n < 128
   ·rw [sz_one h1] at h
    obtain rfl : s = 0 := by omega
    simpa using h1
   ·rw [sz_more (by omega)] at h
    have := top_lt s (n / 128) (by omega)
    have hs : 1 ≤ s := by have := sz_pos (n / 128); omega
    rw [show s + 1 - 1 = (s - 1) + 1 by omega, Nat.pow_succ', ← Nat.div_div_eq_div_mul]
    exact this
end Bin
end Go.Proofs.YtlminileigfkcaaGreat
namespace Go.Proofs.YtlminileigfkcaaGreat
open Go Go.RowKit Bin
theorem Len64_ok (m : Nat) (hm : m < 18446744073709551616) (w : World) : Fn Tryz.prog 104 [.int .u64 (m : Int)] w fun v w' => v = .int .i64 (bl m : Int) ∧ w = w' := by
 refine Fn.enter Tryz.func104 rfl Tryz.ntmps104 rfl (W.sub [(0, _)] (.cons rfl .nil) (W.seq (W.region (WL.assign rfl rfl (WL.nil (WX.next (W.sub [(0, _), (2, _)] (.cons rfl (.cons rfl .nil)) (W.joint (fun (j : Nat × Nat) => [(0, .int .u64 (j.1 : Int)), (2, .int .i64 (j.2 : Int))]) (fun j w' => w = w' ∧ bl m = j.2 + bl j.1 ∧ j.1 < 4294967296 ∧ j.2 ≤ 32) ?_ ?_))))))))
 ·refine W.seq (W.region (WL.move rfl rfl (WL.geq rfl rfl rfl (WL.nil (WX.next (W.sub [(0, _), (2, _), (4, _)] (.cons rfl (.cons rfl (.cons rfl .nil))) (W.ite rfl (fun c0 => ?_) (fun c0 => ?_))))))))
  ·refine W.seq (W.region (WL.move rfl rfl (WL.shrC rfl rfl 32 rfl rfl 4294967296 rfl rfl (WL.assign rfl rfl (WL.nil (WX.next (W.sub [(0, _)] (.cons rfl .nil) (W.region (WL.assign rfl rfl (WL.nil (WX.join ((m / 4294967296, 32)) envSub.sf ⟨rfl, bl_div (k := 32) (by omega), by omega, by omega⟩)))))))))))
  ·refine W.skip (WX.join ((m, 0)) envSub.sf ⟨rfl, by simp, by omega, by omega⟩)
 rintro ⟨x1, s1⟩ _ ⟨rfl, hb1, hx1, hs1⟩; dsimp only at hb1 hx1 hs1
 refine W.sub [(0, _), (2, _)] (.cons rfl (.cons rfl .nil)) (W.joint (fun (j : Nat × Nat) => [(0, .int .u64 (j.1 : Int)), (2, .int .i64 (j.2 : Int))]) (fun j w' => w = w' ∧ bl m = j.2 + bl j.1 ∧ j.1 < 65536 ∧ j.2 ≤ 48) ?_ ?_)
 ·refine W.seq (W.region (WL.move rfl rfl (WL.geq rfl rfl rfl (WL.nil (WX.next (W.sub [(0, _), (2, _), (8, _)] (.cons rfl (.cons rfl (.cons rfl .nil))) (W.ite rfl (fun c1 => ?_) (fun c1 => ?_))))))))
  ·refine W.seq (W.region (WL.move rfl rfl (WL.shrC rfl rfl 16 rfl rfl 65536 rfl rfl (WL.assign rfl rfl (WL.nil (WX.next (W.sub [(0, _), (2, _)] (.cons rfl (.cons rfl .nil)) (W.region (WL.move rfl rfl (WL.add rfl rfl (by first | exact wI64 (by omega) | rfl) rfl ?_))))))))))
   refine WL.assign rfl rfl (WL.nil ?_)
   refine WX.join ((x1 / 65536, s1 + 16)) envSub.sf ⟨rfl, by have := bl_div (k := 16) (n := x1) (by omega); simp only [Nat.reducePow] at this; dsimp only; omega, by dsimp only; omega, by dsimp only; omega⟩
  ·refine W.skip ?_
   refine WX.join ((x1, s1)) envSub.sf ⟨rfl, hb1, by dsimp only; omega, by dsimp only; omega⟩
 rintro ⟨x2, s2⟩ _ ⟨rfl, hb2, hx2, hs2⟩; dsimp only at hb2 hx2 hs2
 refine W.sub [(0, _), (2, _)] (.cons rfl (.cons rfl .nil)) (W.joint (fun (j : Nat × Nat) => [(0, .int .u64 (j.1 : Int)), (2, .int .i64 (j.2 : Int))]) (fun j w' => w = w' ∧ bl m = j.2 + bl j.1 ∧ j.1 < 256 ∧ j.2 ≤ 56) ?_ ?_)
 ·refine W.seq (W.region (WL.move rfl rfl (WL.geq rfl rfl rfl (WL.nil (WX.next (W.sub [(0, _), (2, _), (14, _)] (.cons rfl (.cons rfl (.cons rfl .nil))) (W.ite rfl (fun c2 => ?_) (fun c2 => ?_))))))))
  ·refine W.seq (W.region (WL.move rfl rfl (WL.shrC rfl rfl 8 rfl rfl 256 rfl rfl (WL.assign rfl rfl (WL.nil (WX.next (W.sub [(0, _), (2, _)] (.cons rfl (.cons rfl .nil)) (W.region (WL.move rfl rfl (WL.add rfl rfl (by first | exact wI64 (by omega) | rfl) rfl ?_))))))))))
   refine WL.assign rfl rfl (WL.nil ?_)
   refine WX.join ((x2 / 256, s2 + 8)) envSub.sf ⟨rfl, by have := bl_div (k := 8) (n := x2) (by omega); simp only [Nat.reducePow] at this; dsimp only; omega, by dsimp only; omega, by dsimp only; omega⟩
  ·refine W.skip ?_
   refine WX.join ((x2, s2)) envSub.sf ⟨rfl, hb2, by dsimp only; omega, by dsimp only; omega⟩
 rintro ⟨x3, s3⟩ _ ⟨rfl, hb3, hx3, hs3⟩; dsimp only at hb3 hx3 hs3
 refine W.sub [(0, _), (2, _)] (.cons rfl (.cons rfl .nil)) (W.seq (W.region (WL.move rfl rfl (WL.move rfl rfl (WL.conv Tryz.underlying47 Tryz.underlying5 rfl (by first | exact wU8 (by omega) | exact mU8 _ | rfl) rfl ?_)))))
 refine WL.indexS (l := len8) Tryz.underlying9 rfl rfl (by omega) (len8_at x3 hx3) rfl ?_
 have hb8 := bl_lt x3 hx3
 have hu8 : (UInt8.ofNat (bl x3)).toNat = bl x3 := by simp; omega
 refine WL.conv Tryz.underlying5 Tryz.underlying3 rfl (by first | exact wI64 (by omega) | rfl) rfl ?_
 refine WL.add rfl rfl (by first | exact wI64 (by omega) | rfl) rfl ?_
 refine WL.assign rfl rfl (WL.nil (WX.next (W.sub [(2, _)] (.cons rfl .nil) (W.ret (WX.ret1 rfl rfl (⟨congrArg (Value.int _) ?_, rfl⟩))))))
 omega
theorem and127 (a : Nat) (h : a < 18446744073709551616) : bits .and .u64 (a : Int) 127 = ((a % 128 : Nat) : Int) := by
 have := andU64 a 127 h (by omega)
 rw [show a &&& 127 = a % 128 from Nat.and_two_pow_sub_one_eq_mod a 7] at this
 exact this
theorem and127B (a : Nat) (h : a < 256) : bits .and .u8 (a : Int) 127 = ((a % 128 : Nat) : Int) := by
 have := andU8 a 127 h (by omega)
 rw [show a &&& 127 = a % 128 from Nat.and_two_pow_sub_one_eq_mod a 7] at this
 exact this
theorem or128_nat : ∀ a, a < 128 → a ||| 128 = a + 128 := by decide +kernel
theorem or128 (a : Nat) (h : a < 128) : bits .or .u8 (a : Int) 128 = ((a + 128 : Nat) : Int) := by
 have := orU8 a 128 (by omega) (by omega)
 rw [or128_nat a h] at this
 exact this
theorem put_row {m s k : Nat} (hk : k < s) : (bs (marked m k ++ List.replicate (s - k) 0)).set k (.int .u8 ((m / 128 ^ k % 128 + 128 : Nat) : Int)) = bs (marked m (k + 1) ++ List.replicate (s - (k + 1)) 0) := by
 rw [bv_ofNat (by omega), bs_set, marked_snoc, List.append_assoc]
 congr 1
 rw [List.set_append, if_neg (by rw [marked_length]; omega), marked_length, Nat.sub_self, show s - k = (s - (k + 1)) + 1 by omega, List.replicate_succ, List.set_cons_zero]
 rfl
theorem put_last {m s : Nat} (hs : 1 ≤ s) (hm : m < 18446744073709551616) (e : sz m = s) : (bs (marked m s)).set (s - 1) (.int .u8 ((m / 128 ^ (s - 1) : Nat) : Int)) = bs (put m) := by
 have h1 := top_lt s m e
 obtain ⟨s, rfl⟩ : ∃ t, s = t + 1 := ⟨s - 1, by omega⟩
 simp only [Nat.add_sub_cancel] at *
 rw [bv_ofNat (by omega), bs_set, marked_snoc, put_eq hm, e]
 congr 1
 rw [List.set_append, if_neg (by rw [marked_length]; omega), marked_length, Nat.sub_self, List.set_cons_zero]
 simp only [Nat.add_sub_cancel]
theorem marked_last {m s : Nat} (hs : 1 ≤ s) (hm : m / 128 ^ (s - 1) < 128) : (bs (marked m s))[s - 1]? = some (.int .u8 ((m / 128 ^ (s - 1) + 128 : Nat) : Int)) := by
 obtain ⟨s, rfl⟩ : ∃ t, s = t + 1 := ⟨s - 1, by omega⟩
 simp only [Nat.add_sub_cancel] at *
 rw [marked_snoc, bs_append, List.getElem?_append_right (by rw [bs_length, marked_length]; omega), bs_length, marked_length, Nat.sub_self]
 rw [Nat.mod_eq_of_lt hm, bv_ofNat (by omega)]
 rfl
theorem PutUint_ok (m : Nat) (hm : m < 18446744073709551616) (w : World) : Fn Tryz.prog 68 [.int .u64 (m : Int)] w fun v w' =>
 ∃ A cap, v = .slice A (put m).length cap ∧ Mem w w' [Asr.own 5 1 A (put m).length cap (bs (put m))] := by
 refine Fn.enter Tryz.func68 rfl Tryz.ntmps68 rfl (W.sub [(0, _)] (.cons rfl .nil) ?_)
 have m0 : Mem w w [] := Mem.refl w
 have hsz : (sz m : Int) = max 1 (((bl m : Int) + 6) / 7) := by unfold sz; omega
 have hs10 := sz_le hm
 have hs1 := sz_pos m
 have hbl : bl m ≤ 70 := by unfold sz at hs10; omega
 refine W.seq (W.region (WL.assign rfl rfl (WL.nil (WX.next (W.sub [(0, _)] (.cons rfl .nil) (W.seq (W.region (WL.move rfl rfl (WL.call Tryz.call104 rfl (Len64_ok m hm w) rfl ?_)))))))))
 rintro _ _ ⟨rfl, rfl⟩
 refine WL.add rfl rfl (by first | exact wI64 (by omega) | rfl) rfl ?_
 refine WL.quo rfl rfl (by omega) (quoI64 (by omega)) rfl ?_
 refine WL.max rfl rfl rfl (WL.assign rfl rfl ?_)
 rw [← hsz]
 refine WL.nil (WX.next (W.sub [(0, _), (3, _)] (.cons rfl (.cons rfl .nil)) (W.seq (W.region (WL.move rfl rfl ?_)))))
 skip
 refine WL.make Tryz.elem5 Tryz.zeroValue5 (by assumption) rfl rfl (by omega) rfl (by omega) (by omega) rfl ?_
 intro g w1 m1
 simp only [Int.toNat_natCast] at m1 ⊢
 refine WL.assign rfl rfl (WL.nil (WX.next (W.sub [(0, _), (3, _), (4, _)] (.cons rfl (.cons rfl (.cons rfl .nil))) (W.seq (W.seq (W.region (WL.move rfl rfl (WL.len Tryz.underlying84 rfl rfl (WL.move rfl rfl (WL.nil (WX.next (W.sub [(0, _), (3, _), (4, _), (14, _), (15, _)] (.cons rfl (.cons rfl (.cons rfl (.cons rfl (.cons rfl .nil))))) (W.block (W.loop (ι := Nat) (fun k => [(0, .int .u64 ((m / 128 ^ k : Nat) : Int)), (3, .int .i64 (sz m : Int)), (4, .slice (some ⟨g, 0, none⟩) (sz m) (sz m)), (14, .int .i64 (sz m : Int)), (15, .int .i64 (k : Int))]) (fun k w' => k ≤ sz m ∧ Mem w w' [Asr.row g 5 (bs (marked m k ++ List.replicate (sz m - k) 0))]) (fun k => sz m - k) (0) envSub.sf ⟨by omega, by simpa [marked, bs, bv] using m1⟩ ?_))))))))))))))
 rintro k w2 ⟨hk, m2⟩
 have hmk : m / 128 ^ k ≤ m := Nat.div_le_self ..
 refine W.sub [(0, _), (3, _), (4, _), (14, _), (15, _)] (.cons rfl (.cons rfl (.cons rfl (.cons rfl (.cons rfl .nil))))) (W.seq (W.region (WL.lss rfl rfl rfl (WL.nil (WX.next (W.sub [(0, _), (3, _), (4, _), (14, _), (15, _), (16, _)] (.cons rfl (.cons rfl (.cons rfl (.cons rfl (.cons rfl (.cons rfl .nil)))))) (W.seq (W.ite rfl (fun c0 => ?_) (fun c0 => ?_)))))))))
 ·have hk' : k < sz m := by omega
  refine W.skip (WX.next (W.seq (W.block (W.seq (W.region (WL.move rfl rfl (WL.assign rfl rfl (WL.nil (WX.next (W.sub [(0, _), (3, _), (4, _), (5, _), (14, _), (15, _)] (.cons rfl (.cons rfl (.cons rfl (.cons rfl (.cons rfl (.cons rfl .nil)))))) (W.seq (W.region (WL.move rfl rfl (WL.move rfl rfl (WL.move rfl rfl (WL.band rfl rfl (and127 _ (by omega)) rfl ?_))))))))))))))))
  refine WL.conv Tryz.underlying47 Tryz.underlying5 rfl (by first | exact wU8 (by omega) | exact mU8 _ | rfl) rfl ?_
  refine WL.bor rfl rfl (or128 _ (by omega)) rfl ?_
  refine WL.idxAt (o' := k) Tryz.underlying84 Tryz.sizeOf5 rfl rfl (by omega) (by omega) (by omega) rfl ?_
  refine WL.store m2 Tryz.sizeOf5 rfl rfl rfl (by simp [bs, marked_length]; omega) ?_
  intro w3 m3
  rw [put_row hk'] at m3
  have hdiv : m / 128 ^ (k + 1) = m / 128 ^ k / 128 := by rw [Nat.pow_succ, Nat.div_div_eq_div_mul]
  refine WL.nil (WX.next (W.sub [(0, _), (3, _), (4, _), (14, _), (15, _)] (.cons rfl (.cons rfl (.cons rfl (.cons rfl (.cons rfl .nil))))) (W.region (WL.move rfl rfl (WL.shrC rfl rfl 7 rfl rfl 128 rfl rfl (WL.assign rfl rfl (WL.nil (WX.blockNormal (WX.next (W.sub [(0, _), (3, _), (4, _), (14, _), (15, _)] (.cons rfl (.cons rfl (.cons rfl (.cons rfl (.cons rfl .nil))))) (W.region (WL.add rfl rfl (by first | exact wI64 (by omega) | rfl) rfl ?_))))))))))))
  refine WL.move rfl rfl (WL.nil ?_)
  refine WX.round (k + 1) envSub.sf ⟨by omega, m3⟩ (by first | omega | (dsimp only; omega))
 ·have hk' : k = sz m := by omega
  refine W.exit (WX.thenExit (WX.thenExit (WX.blockHere (WX.next (W.seq (W.region (WL.move rfl rfl (WL.move rfl rfl (WL.sub' rfl rfl (by first | exact wI64 (by omega) | rfl) rfl ?_)))))))))
  subst hk'
  simp only [Nat.sub_self, List.replicate_zero, List.append_nil] at m2
  refine WL.idxAt (o' := sz m - 1) Tryz.underlying84 Tryz.sizeOf5 rfl rfl (by omega) (by omega) (by omega) rfl ?_
  refine WL.load Tryz.isAgg5 rfl ((m2.cell _).trans (marked_last hs1 (top_lt _ _ rfl))) rfl ?_
  refine WL.band rfl rfl (and127B _ (by have := top_lt _ m rfl; omega)) rfl ?_
  refine WL.idxAt (o' := sz m - 1) Tryz.underlying84 Tryz.sizeOf5 rfl rfl (by omega) (by omega) (by omega) rfl ?_
  refine WL.store m2 Tryz.sizeOf5 rfl rfl rfl (by simp [bs, marked_length]; omega) ?_
  intro w3 m3
  have htop := top_lt _ m rfl
  rw [show (m / 128 ^ (sz m - 1) + 128) % 128 = m / 128 ^ (sz m - 1) by rw [Nat.add_mod_right, Nat.mod_eq_of_lt htop], put_last hs1 hm rfl] at m3
  refine WL.nil (WX.next (W.sub [(4, _)] (.cons rfl .nil) (W.seq (W.region (WL.move rfl rfl (WL.assign rfl rfl (WL.nil (WX.next (W.sub [(2, _)] (.cons rfl .nil) (W.ret (WX.ret1 rfl rfl (⟨some ⟨g, 0, none⟩, (put m).length, by rw [put_length hm], ?_⟩))))))))))))
  exact m3.rowOwn [] (by simp) (by simp [bs_length]) (by simp [bs_length]) (by rw [put_length hm]; simp only [maxLen]; omega) (Nat.le_refl _)
end Go.Proofs.YtlminileigfkcaaGreat
namespace Go.Proofs.YtlminileigfkcaaGreat
namespace Bin
/-- The number at the front: (error, number, how many bytes). f: digits left; i: digits read. -/
def getF : Nat → Nat → List UInt8 → Nat × Nat × Nat
 | 0, _, _ => (11, 0, 0)
 | _ + 1, _, [] => (10, 0, 0)
 | f + 1, i, c :: r =>
   if (i = 9 ∧ 1 < c.toNat) ∨ (c.toNat = 0 ∧ 0 < i) then (11, 0, 0)
   else if c.toNat < 128 then (0, c.toNat, 1)
   else match getF f (i + 1) r with
    | (0, n, k) => (0, c.toNat - 128 + 128 * n, k + 1)
    | (e + 1, _, _) => (e + 1, 0, 0)
/-- i digits were read, that come to acc. -/
def join (i acc : Nat) : Nat × Nat × Nat → Nat × Nat × Nat
 | (0, n, k) => (0, acc + 128 ^ i * n, i + k)
 | (e + 1, _, _) => (e + 1, 0, 0)
/-- What the first k bytes come to. -/
def accV (l : List UInt8) : Nat → Nat
 | 0 => 0
 | k + 1 => accV l k + 128 ^ k * ((l[k]?.getD 0).toNat - 128)
theorem accV_zero (l : List UInt8) : accV l 0 = 0 := rfl
theorem accV_succ (l : List UInt8) (k : Nat) : accV l (k + 1) = accV l k + 128 ^ k * ((l[k]?.getD 0).toNat - 128) := rfl
theorem accV_lt (l : List UInt8) : ∀ k, accV l k < 128 ^ k
 | 0 => by rw [accV_zero]; decide
 | k + 1 => by
   have h1 := accV_lt l k
   have h2 : (l[k]?.getD 0).toNat < 256 := UInt8.toNat_lt _
   rw [accV_succ, Nat.pow_succ]
   have h3 : 128 ^ k * ((l[k]?.getD 0).toNat - 128) ≤ 128 ^ k * 127 := Nat.mul_le_mul_left _ (by omega)
   omega
structure Inv (l : List UInt8) (i : Nat) : Prop where
 eq : getF 10 0 l = join i (accV l i) (getF (10 - i) i (l.drop i))
 le : i ≤ 10
 len : i ≤ l.length
theorem join_zero (x : Nat × Nat × Nat) (h : x.1 ≠ 0 → x = (x.1, 0, 0)) : join 0 0 x = x := by
 obtain ⟨e, n, k⟩ := x
 cases e with
 | zero => simp [join]
 | succ e => have := h (by simp); simp_all [join]
theorem getF_bad : ∀ (f i : Nat) (l : List UInt8), (getF f i l).1 ≠ 0 → getF f i l = ((getF f i l).1, 0, 0)
 | 0, _, _, _ => rfl
 | _ + 1, _, [], _ => rfl
 | f + 1, i, c :: r, h => by
   rw [getF] at h ⊢
   split
   ·rfl
   ·rename_i h1
    rw [if_neg h1] at h
    split
    ·rename_i h2
     rw [if_pos h2] at h
     simp at h
    ·rename_i h2
     rw [if_neg h2] at h
     generalize getF f (i + 1) r = x at *
     obtain ⟨e, n, k⟩ := x
     cases e with
     | zero => simp at h
     | succ e => rfl
theorem Inv.start (l : List UInt8) : Inv l 0 := ⟨by
 rw [show accV l 0 = 0 from rfl, List.drop_zero, join_zero _ (getF_bad 10 0 l)], by omega, by omega⟩
section
variable {l : List UInt8} {i : Nat}
theorem drop_at (h : i < l.length) : l.drop i = l[i] :: l.drop (i + 1) := by
 rw [List.drop_eq_getElem_cons h]
theorem Inv.bad (H : Inv l i) (hi : i < 10) (hl : i < l.length) (h : (i = 9 ∧ 1 < l[i].toNat) ∨ (l[i].toNat = 0 ∧ 0 < i)) : getF 10 0 l = (11, 0, 0) := by
 rw [H.eq, drop_at hl, show 10 - i = (9 - i) + 1 by omega, getF, if_pos h]
 rfl
theorem Inv.done (H : Inv l i) (hi : i < 10) (hl : i < l.length) (h : ¬ ((i = 9 ∧ 1 < l[i].toNat) ∨ (l[i].toNat = 0 ∧ 0 < i))) (hc : l[i].toNat < 128) :
 getF 10 0 l = (0, accV l i + 128 ^ i * l[i].toNat, i + 1) := by
 rw [H.eq, drop_at hl, show 10 - i = (9 - i) + 1 by omega, getF, if_neg h, if_pos hc]
 rfl
theorem Inv.step (H : Inv l i) (hi : i < 10) (hl : i < l.length) (h : ¬ ((i = 9 ∧ 1 < l[i].toNat) ∨ (l[i].toNat = 0 ∧ 0 < i))) (hc : 128 ≤ l[i].toNat) : Inv l (i + 1) := by
 refine ⟨?_, by omega, by omega⟩
 rw [H.eq, drop_at hl, show 10 - i = (9 - i) + 1 by omega, getF, if_neg h, if_neg (by omega), show 10 - (i + 1) = 9 - i by omega]
 generalize getF (9 - i) (i + 1) (l.drop (i + 1)) = x
 obtain ⟨e, n, k⟩ := x
 cases e with
 | succ e => rfl
 | zero =>
   have e1 : l[i]?.getD 0 = l[i] := by simp [hl]
   simp only [join, accV_succ, e1, Prod.mk.injEq, true_and]
   refine ⟨?_, by omega⟩
   rw [Nat.pow_succ, Nat.mul_add, Nat.mul_assoc, Nat.add_assoc]
theorem Inv.short (H : Inv l i) (hi : i < 10) (hl : l.length ≤ i) : getF 10 0 l = (10, 0, 0) := by
 rw [H.eq, List.drop_eq_nil_of_le hl, show 10 - i = (9 - i) + 1 by omega, getF]
 rfl
theorem Inv.end_ (H : Inv l 10) : getF 10 0 l = (11, 0, 0) := by rw [H.eq]; rfl
/-- n marked bytes, nine at most. -/
theorem Inv.of_marked : ∀ n, n ≤ 9 → n ≤ l.length → (∀ j, (h : j < l.length) → j < n → 128 ≤ l[j].toNat) → Inv l n
 | 0, _, _, _ => Inv.start l
 | n + 1, h9, hl, h => by
   have H := Inv.of_marked n (by omega) (by omega) (fun j hj hn => h j hj (by omega))
   have hn := h n (by omega) (by omega)
   exact H.step (by omega) (by omega) (by omega) hn
end
/-- What Uint answers: the number, the place behind, the error. -/
def rdU (b : List UInt8) (at_ : Int) : Nat × Int × Int :=
 if at_ < 0 ∨ (b.length : Int) < at_ then (0, 0, 2)
 else match getF 10 0 (b.drop at_.toNat) with
  | (0, n, k) => (n, at_ + k, 0)
  | (e + 1, _, _) => (0, 0, ((e + 1 : Nat) : Int))
theorem rdU_out {b : List UInt8} {at_ : Int} (h : at_ < 0 ∨ (b.length : Int) < at_) : rdU b at_ = (0, 0, 2) := if_pos h
theorem rdU_ok {b : List UInt8} {at_ : Int} {n k : Nat} (h0 : 0 ≤ at_) (h1 : at_ ≤ b.length) (h : getF 10 0 (b.drop at_.toNat) = (0, n, k)) : rdU b at_ = (n, at_ + k, 0) := by
 unfold rdU
 rw [if_neg (by omega), h]
theorem rdU_bad {b : List UInt8} {at_ : Int} {e : Nat} (h0 : 0 ≤ at_) (h1 : at_ ≤ b.length) (h : getF 10 0 (b.drop at_.toNat) = (e + 1, 0, 0)) : rdU b at_ = (0, 0, ((e + 1 : Nat) : Int)) := by
 unfold rdU
 rw [if_neg (by omega), h]
end Bin
end Go.Proofs.YtlminileigfkcaaGreat
namespace Go.Proofs.YtlminileigfkcaaGreat
open Go Go.RowKit Bin
def rdUv (x : Nat × Int × Int) : Value := .tuple #[.int .u64 (x.1 : Int), .int .i64 x.2.1, .int .i64 x.2.2]
theorem rdUv_mk {n n' : Nat} {a a' e e' : Int} (h1 : n = n') (h2 : a = a') (h3 : e = e') : Value.tuple #[.int .u64 (n : Int), .int .i64 a, .int .i64 e] = rdUv (n', a', e') := by
 subst h1 h2 h3; rfl
theorem fits7 {k x : Nat} (hk : k ≤ 9) (hx : x ≤ 127) (h9 : k = 9 → x ≤ 1) : 128 ^ k + x * 128 ^ k ≤ 18446744073709551616 := by
 have : k = 0 ∨ k = 1 ∨ k = 2 ∨ k = 3 ∨ k = 4 ∨ k = 5 ∨ k = 6 ∨ k = 7 ∨ k = 8 ∨ k = 9 := by omega
 rcases this with rfl | rfl | rfl | rfl | rfl | rfl | rfl | rfl | rfl | rfl <;> simp at h9 ⊢ <;> omega
theorem shl7 {k x : Nat} (hf : 128 ^ k + x * 128 ^ k ≤ 18446744073709551616) : IntKind.u64.wrap ((x : Int) * 2 ^ (7 * (k : Int)).toNat) = ((x * 128 ^ k : Nat) : Int) := by
 have e : (x : Int) * 2 ^ (7 * (k : Int)).toNat = ((x * 128 ^ k : Nat) : Int) := by
  rw [show (7 * (k : Int)).toNat = 7 * k by omega]
  push_cast
  rw [show (128 : Int) = 2 ^ 7 by rfl, ← Int.pow_mul]
 have hp : 0 < 128 ^ k := Nat.pow_pos (by decide)
 rw [e]
 exact wU64 ⟨by omega, by omega⟩
theorem or7 {k x acc : Nat} (ha : acc < 128 ^ k) (hf : 128 ^ k + x * 128 ^ k ≤ 18446744073709551616) : bits .or .u64 (acc : Int) ((x * 128 ^ k : Nat) : Int) = ((acc + 128 ^ k * x : Nat) : Int) := by
 rw [orU64 _ _ (by omega) (by have : 0 < 128 ^ k := Nat.pow_pos (by decide); omega)]
 have e : x * 128 ^ k = 2 ^ (7 * k) * x := by rw [Nat.mul_comm, Nat.pow_mul]
 have h := Nat.two_pow_add_eq_or_of_lt (i := 7 * k) (b := acc) (by rw [Nat.pow_mul]; exact ha) x
 rw [e, Nat.or_comm, ← h, Nat.pow_mul, Nat.add_comm]
theorem Uint_ok (l : List UInt8) (A : Option Addr) (cap : Nat) (at_ : Int) (w : World) (h : RdB w A cap l) (hl : l.length ≤ 140737488355328) (ha : -9223372036854775808 ≤ at_ ∧ at_ ≤ 9223372036854775807) :
 Fn Tryz.prog 86 [.slice A l.length cap, .int .i64 at_] w fun v w' => v = rdUv (rdU l at_) ∧ w = w' := by
 refine Fn.enter Tryz.func86 rfl Tryz.ntmps86 rfl (W.sub [(0, _), (1, _)] (.cons rfl (.cons rfl .nil)) ?_)
 obtain ⟨L, hL⟩ : ∃ L, L = l.drop at_.toNat := ⟨_, rfl⟩
 refine W.seq (W.region (WL.assign rfl rfl (WL.assign rfl rfl (WL.assign rfl rfl (WL.nil (WX.next (W.sub [(0, _), (1, _)] (.cons rfl (.cons rfl .nil)) (W.scope (W.seq (W.seq (W.region (WL.move rfl rfl (WL.lss rfl rfl rfl (WL.moveIf rfl rfl (fun c0 => ?_) (fun c0 => ?_)))))))))))))))
 ·refine WL.off rfl rfl rfl rfl (WL.off rfl rfl rfl rfl (WL.off rfl rfl rfl rfl (WL.off rfl rfl rfl rfl (WL.pickT rfl rfl rfl (WL.nil (WX.next (W.sub [(0, _), (1, _), (17, _)] (.cons rfl (.cons rfl (.cons rfl .nil))) (W.condT rfl (W.seq (W.region (WL.assign rfl rfl (WL.assign rfl rfl (WL.assign rfl rfl (WL.nil (WX.next (W.sub [(4, _), (5, _), (6, _)] (.cons rfl (.cons rfl (.cons rfl .nil))) (W.ret (WX.thenRet (WX.scopeRet (WX.ret3 rfl rfl rfl rfl ?_))))))))))))))))))))
  exact ⟨by rw [rdU_out (by omega)]; rfl, rfl⟩
 ·refine WL.on rfl rfl (WL.move rfl rfl (WL.on rfl rfl (WL.move rfl rfl (WL.on rfl rfl (WL.len Tryz.underlying84 rfl rfl (WL.on rfl rfl (WL.gtr rfl rfl rfl (WL.pickF rfl rfl rfl (WL.nil (WX.next (W.sub [(0, _), (1, _), (17, _)] (.cons rfl (.cons rfl (.cons rfl .nil))) (W.ite rfl (fun c1 => ?_) (fun c1 => ?_)))))))))))))
  ·skip
   refine W.seq (W.region (WL.assign rfl rfl (WL.assign rfl rfl (WL.assign rfl rfl (WL.nil (WX.next (W.sub [(4, _), (5, _), (6, _)] (.cons rfl (.cons rfl (.cons rfl .nil))) (W.ret (WX.thenRet (WX.scopeRet (WX.ret3 rfl rfl rfl rfl ?_)))))))))))
   exact ⟨by rw [rdU_out (by omega)]; rfl, rfl⟩
  ·refine W.skip (WX.next (W.seq (W.region (WL.assign rfl rfl (WL.nil (WX.next (W.sub [(0, _), (1, _), (7, _)] (.cons rfl (.cons rfl (.cons rfl .nil))) (W.seq (W.label (WX.next (W.seq (W.seq (W.region (WL.move rfl rfl (WL.nil (WX.next (W.sub [(0, _), (1, _), (7, _), (18, _)] (.cons rfl (.cons rfl (.cons rfl (.cons rfl .nil)))) (W.block (W.loop (ι := Nat) (fun k => [(0, .slice A l.length cap), (1, .int .i64 at_), (7, .int .u64 ((accV L k : Nat) : Int)), (18, .int .i64 (k : Int))]) (fun k w' => w = w' ∧ Inv L k ∧ 0 ≤ at_ ∧ at_ ≤ l.length) (fun k => 10 - k) (0) envSub.sf ⟨rfl, Inv.start L, by omega, by omega⟩ ?_)))))))))))))))))))
   rintro k _ ⟨rfl, H, h0, h1⟩
   have hLl : L.length = l.length - at_.toNat := by rw [hL]; simp
   have hk := H.le
   refine W.sub [(0, _), (1, _), (7, _), (18, _)] (.cons rfl (.cons rfl (.cons rfl (.cons rfl .nil)))) (W.seq (W.region (WL.lss rfl rfl rfl (WL.nil (WX.next (W.sub [(0, _), (1, _), (7, _), (18, _), (19, _)] (.cons rfl (.cons rfl (.cons rfl (.cons rfl (.cons rfl .nil))))) (W.seq (W.ite rfl (fun c2 => ?_) (fun c2 => ?_)))))))))
   ·refine W.skip (WX.next (W.seq (W.block (W.seq (W.region (WL.move rfl rfl (WL.assign rfl rfl (WL.nil (WX.next (W.sub [(0, _), (1, _), (7, _), (8, _), (18, _)] (.cons rfl (.cons rfl (.cons rfl (.cons rfl (.cons rfl .nil))))) (W.seq (W.seq (W.region (WL.move rfl rfl (WL.move rfl rfl (WL.add rfl rfl (by first | exact wI64 (by omega) | rfl) rfl ?_))))))))))))))))
    refine WL.move rfl rfl (WL.len Tryz.underlying84 rfl rfl (WL.geq rfl rfl rfl (WL.nil (WX.next (W.sub [(0, _), (1, _), (7, _), (8, _), (18, _), (26, _)] (.cons rfl (.cons rfl (.cons rfl (.cons rfl (.cons rfl (.cons rfl .nil)))))) (W.ite rfl (fun c3 => ?_) (fun c3 => ?_)))))))
    ·refine W.seq (W.region (WL.assign rfl rfl (WL.assign rfl rfl (WL.assign rfl rfl (WL.nil (WX.next (W.sub [(4, _), (5, _), (6, _)] (.cons rfl (.cons rfl (.cons rfl .nil))) (W.ret (WX.thenRet (WX.blockRet (WX.thenRet (WX.thenRet (WX.blockRet (WX.thenRet (WX.scopeRet (WX.ret3 rfl rfl rfl rfl ?_))))))))))))))))
     exact ⟨by rw [rdU_bad h0 h1 (e := 9) (by rw [← hL]; exact H.short (by omega) (by omega))]; rfl, rfl⟩
    ·refine W.skip (WX.next (W.seq (W.region (WL.move rfl rfl (WL.move rfl rfl (WL.move rfl rfl (WL.add rfl rfl (by first | exact wI64 (by omega) | rfl) rfl ?_)))))))
     refine WL.idxB Tryz.underlying84 Tryz.sizeOf5 rfl rfl (by assumption) rfl (by omega) (by omega) rfl ?_
     intro ad9_4 had9_4
     try simp only [Int.toNat_natCast] at had9_4
     have hkL : k < L.length := by omega
     have hLk : l[(at_ + (k : Int)).toNat]'(by omega) = L[k] := by
      subst hL
      rw [List.getElem_drop]
      congr 1
      omega
     rw [hLk] at had9_4
     have hc8 := UInt8.toNat_lt L[k]
     have hacc := accV_lt L k
     refine WL.load Tryz.isAgg5 rfl (by assumption) rfl ?_
     refine WL.assign rfl rfl (WL.nil (WX.next (W.sub [(0, _), (1, _), (7, _), (8, _), (9, _), (18, _)] (.cons rfl (.cons rfl (.cons rfl (.cons rfl (.cons rfl (.cons rfl .nil)))))) (W.seq (W.block (W.seq (W.region (WL.move rfl rfl (WL.eqI rfl rfl rfl (WL.moveIf rfl rfl (fun c4 => ?_) (fun c4 => ?_)))))))))))
     ·refine WL.on rfl rfl (WL.move rfl rfl (WL.on rfl rfl (WL.gtr rfl rfl rfl (WL.pickT rfl rfl rfl (WL.assign rfl rfl (WL.nil (WX.next (W.sub [(0, _), (1, _), (7, _), (8, _), (9, _), (18, _), (33, _)] (.cons rfl (.cons rfl (.cons rfl (.cons rfl (.cons rfl (.cons rfl (.cons rfl .nil))))))) (W.ite rfl (fun c5 => ?_) (fun c5 => ?_))))))))))
      ·refine W.exit (WX.blockPast rfl (WX.thenExit (WX.blockPast rfl (WX.thenExit (WX.thenExit (WX.blockHere (WX.next (W.seq (W.region (WL.assign rfl rfl (WL.assign rfl rfl (WL.assign rfl rfl (WL.nil (WX.next (W.sub [(4, _), (5, _), (6, _)] (.cons rfl (.cons rfl (.cons rfl .nil))) (W.ret (WX.scopeRet (WX.ret3 rfl rfl rfl rfl ?_))))))))))))))))))
       exact ⟨by rw [rdU_bad h0 h1 (e := 10) (by rw [← hL]; first | exact H.bad (by omega) hkL (by omega) | (obtain rfl : k = 10 := (by omega); exact H.end_))]; rfl, rfl⟩
      ·refine W.seq (W.region (WL.move rfl rfl (WL.eqI rfl rfl rfl (WL.moveIf rfl rfl (fun c6 => ?_) (fun c6 => ?_)))))
       ·refine WL.on rfl rfl (WL.move rfl rfl (WL.on rfl rfl (WL.gtr rfl rfl rfl (WL.pickT rfl rfl rfl (WL.assign rfl rfl (WL.nil (WX.next (W.sub [(0, _), (1, _), (7, _), (8, _), (9, _), (18, _), (40, _)] (.cons rfl (.cons rfl (.cons rfl (.cons rfl (.cons rfl (.cons rfl (.cons rfl .nil))))))) (W.ite rfl (fun c7 => ?_) (fun c7 => ?_))))))))))
        ·refine W.exit (WX.blockPast rfl (WX.thenExit (WX.blockPast rfl (WX.thenExit (WX.thenExit (WX.blockHere (WX.next (W.seq (W.region (WL.assign rfl rfl (WL.assign rfl rfl (WL.assign rfl rfl (WL.nil (WX.next (W.sub [(4, _), (5, _), (6, _)] (.cons rfl (.cons rfl (.cons rfl .nil))) (W.ret (WX.scopeRet (WX.ret3 rfl rfl rfl rfl ?_))))))))))))))))))
         exact ⟨by rw [rdU_bad h0 h1 (e := 10) (by rw [← hL]; first | exact H.bad (by omega) hkL (by omega) | (obtain rfl : k = 10 := (by omega); exact H.end_))]; rfl, rfl⟩
        ·refine W.skip (WX.blockNormal (WX.next (W.seq (W.region ?_))))
         have hbad : ¬ ((k = 9 ∧ 1 < L[k].toNat) ∨ (L[k].toNat = 0 ∧ 0 < k)) := by omega
         have hf := fits7 (k := k) (x := L[k].toNat % 128) (by omega) (by omega) (by omega)
         refine WL.move rfl rfl (WL.move rfl rfl (WL.band rfl rfl (and127B _ (by omega)) rfl ?_))
         refine WL.conv Tryz.underlying5 Tryz.underlying47 rfl (by first | exact wU64 (by omega) | exact mU64 _ | rfl) rfl ?_
         refine WL.move rfl rfl (WL.mul rfl rfl (by first | exact wI64 (by omega) | rfl) rfl ?_)
         refine WL.shl rfl rfl (by omega) (by show _ ≤ (64 : Int); omega) (shl7 hf) rfl ?_
         refine WL.bor rfl rfl (or7 hacc hf) rfl (WL.assign rfl rfl (WL.nil (WX.next (W.sub [(0, _), (1, _), (7, _), (8, _), (9, _), (18, _)] (.cons rfl (.cons rfl (.cons rfl (.cons rfl (.cons rfl (.cons rfl .nil)))))) (W.seq (W.region (WL.move rfl rfl (WL.lss rfl rfl rfl (WL.nil (WX.next (W.sub [(0, _), (1, _), (7, _), (8, _), (18, _), (56, _)] (.cons rfl (.cons rfl (.cons rfl (.cons rfl (.cons rfl (.cons rfl .nil)))))) (W.ite rfl (fun c8 => ?_) (fun c8 => ?_)))))))))))))
         ·refine W.seq (W.region (WL.move rfl rfl (WL.move rfl rfl (WL.move rfl rfl (WL.add rfl rfl (by first | exact wI64 (by omega) | rfl) rfl ?_)))))
          refine WL.add rfl rfl (by first | exact wI64 (by omega) | rfl) rfl ?_
          refine WL.assign rfl rfl (WL.assign rfl rfl (WL.assign rfl rfl (WL.nil (WX.next (W.sub [(4, _), (5, _), (6, _)] (.cons rfl (.cons rfl (.cons rfl .nil))) (W.ret (WX.blockRet (WX.thenRet (WX.thenRet (WX.blockRet (WX.thenRet (WX.scopeRet (WX.ret3 rfl rfl rfl rfl ?_)))))))))))))
          exact ⟨by rw [rdU_ok h0 h1 (by rw [← hL]; exact H.done (by omega) hkL hbad (by omega))]; exact rdUv_mk (by rw [Nat.mod_eq_of_lt (by omega)]) (by omega) rfl, rfl⟩
         ·refine W.skip (WX.blockNormal (WX.next (W.region (WL.add rfl rfl (by first | exact wI64 (by omega) | rfl) rfl ?_))))
          refine WL.move rfl rfl (WL.nil ?_)
          have hstep : accV L (k + 1) = accV L k + 128 ^ k * (L[k].toNat % 128) := by
           rw [accV_succ, show L[k]?.getD 0 = L[k] by simp [hkL], show L[k].toNat - 128 = L[k].toNat % 128 by omega]
          rw [← hstep]
          refine WX.round (k + 1) envSub.sf ⟨rfl, H.step (by omega) hkL hbad (by omega), h0, h1⟩ (by first | omega | (dsimp only; omega))
       ·refine WL.off rfl rfl rfl rfl (WL.off rfl rfl rfl rfl (WL.pickF rfl rfl rfl (WL.assign rfl rfl (WL.nil (WX.next (W.sub [(0, _), (1, _), (7, _), (8, _), (9, _), (18, _), (40, _)] (.cons rfl (.cons rfl (.cons rfl (.cons rfl (.cons rfl (.cons rfl (.cons rfl .nil))))))) (W.condF rfl (W.skip (WX.blockNormal (WX.next (W.seq (W.region ?_))))))))))))
        have hbad : ¬ ((k = 9 ∧ 1 < L[k].toNat) ∨ (L[k].toNat = 0 ∧ 0 < k)) := by omega
        have hf := fits7 (k := k) (x := L[k].toNat % 128) (by omega) (by omega) (by omega)
        refine WL.move rfl rfl (WL.move rfl rfl (WL.band rfl rfl (and127B _ (by omega)) rfl ?_))
        refine WL.conv Tryz.underlying5 Tryz.underlying47 rfl (by first | exact wU64 (by omega) | exact mU64 _ | rfl) rfl ?_
        refine WL.move rfl rfl (WL.mul rfl rfl (by first | exact wI64 (by omega) | rfl) rfl ?_)
        refine WL.shl rfl rfl (by omega) (by show _ ≤ (64 : Int); omega) (shl7 hf) rfl ?_
        refine WL.bor rfl rfl (or7 hacc hf) rfl (WL.assign rfl rfl (WL.nil (WX.next (W.sub [(0, _), (1, _), (7, _), (8, _), (9, _), (18, _)] (.cons rfl (.cons rfl (.cons rfl (.cons rfl (.cons rfl (.cons rfl .nil)))))) (W.seq (W.region (WL.move rfl rfl (WL.lss rfl rfl rfl (WL.nil (WX.next (W.sub [(0, _), (1, _), (7, _), (8, _), (18, _), (56, _)] (.cons rfl (.cons rfl (.cons rfl (.cons rfl (.cons rfl (.cons rfl .nil)))))) (W.ite rfl (fun c8 => ?_) (fun c8 => ?_)))))))))))))
        ·refine W.seq (W.region (WL.move rfl rfl (WL.move rfl rfl (WL.move rfl rfl (WL.add rfl rfl (by first | exact wI64 (by omega) | rfl) rfl ?_)))))
         refine WL.add rfl rfl (by first | exact wI64 (by omega) | rfl) rfl ?_
         refine WL.assign rfl rfl (WL.assign rfl rfl (WL.assign rfl rfl (WL.nil (WX.next (W.sub [(4, _), (5, _), (6, _)] (.cons rfl (.cons rfl (.cons rfl .nil))) (W.ret (WX.blockRet (WX.thenRet (WX.thenRet (WX.blockRet (WX.thenRet (WX.scopeRet (WX.ret3 rfl rfl rfl rfl ?_)))))))))))))
         exact ⟨by rw [rdU_ok h0 h1 (by rw [← hL]; exact H.done (by omega) hkL hbad (by omega))]; exact rdUv_mk (by rw [Nat.mod_eq_of_lt (by omega)]) (by omega) rfl, rfl⟩
        ·refine W.skip (WX.blockNormal (WX.next (W.region (WL.add rfl rfl (by first | exact wI64 (by omega) | rfl) rfl ?_))))
         refine WL.move rfl rfl (WL.nil ?_)
         have hstep : accV L (k + 1) = accV L k + 128 ^ k * (L[k].toNat % 128) := by
          rw [accV_succ, show L[k]?.getD 0 = L[k] by simp [hkL], show L[k].toNat - 128 = L[k].toNat % 128 by omega]
         rw [← hstep]
         refine WX.round (k + 1) envSub.sf ⟨rfl, H.step (by omega) hkL hbad (by omega), h0, h1⟩ (by first | omega | (dsimp only; omega))
     ·refine WL.off rfl rfl rfl rfl (WL.off rfl rfl rfl rfl (WL.pickF rfl rfl rfl (WL.assign rfl rfl (WL.nil (WX.next (W.sub [(0, _), (1, _), (7, _), (8, _), (9, _), (18, _), (33, _)] (.cons rfl (.cons rfl (.cons rfl (.cons rfl (.cons rfl (.cons rfl (.cons rfl .nil))))))) (W.condF rfl (W.seq (W.region (WL.move rfl rfl (WL.eqI rfl rfl rfl (WL.moveIf rfl rfl (fun c6 => ?_) (fun c6 => ?_)))))))))))))
      ·refine WL.on rfl rfl (WL.move rfl rfl (WL.on rfl rfl (WL.gtr rfl rfl rfl (WL.pickT rfl rfl rfl (WL.assign rfl rfl (WL.nil (WX.next (W.sub [(0, _), (1, _), (7, _), (8, _), (9, _), (18, _), (40, _)] (.cons rfl (.cons rfl (.cons rfl (.cons rfl (.cons rfl (.cons rfl (.cons rfl .nil))))))) (W.ite rfl (fun c7 => ?_) (fun c7 => ?_))))))))))
       ·refine W.exit (WX.blockPast rfl (WX.thenExit (WX.blockPast rfl (WX.thenExit (WX.thenExit (WX.blockHere (WX.next (W.seq (W.region (WL.assign rfl rfl (WL.assign rfl rfl (WL.assign rfl rfl (WL.nil (WX.next (W.sub [(4, _), (5, _), (6, _)] (.cons rfl (.cons rfl (.cons rfl .nil))) (W.ret (WX.scopeRet (WX.ret3 rfl rfl rfl rfl ?_))))))))))))))))))
        exact ⟨by rw [rdU_bad h0 h1 (e := 10) (by rw [← hL]; first | exact H.bad (by omega) hkL (by omega) | (obtain rfl : k = 10 := (by omega); exact H.end_))]; rfl, rfl⟩
       ·refine W.skip (WX.blockNormal (WX.next (W.seq (W.region ?_))))
        have hbad : ¬ ((k = 9 ∧ 1 < L[k].toNat) ∨ (L[k].toNat = 0 ∧ 0 < k)) := by omega
        have hf := fits7 (k := k) (x := L[k].toNat % 128) (by omega) (by omega) (by omega)
        refine WL.move rfl rfl (WL.move rfl rfl (WL.band rfl rfl (and127B _ (by omega)) rfl ?_))
        refine WL.conv Tryz.underlying5 Tryz.underlying47 rfl (by first | exact wU64 (by omega) | exact mU64 _ | rfl) rfl ?_
        refine WL.move rfl rfl (WL.mul rfl rfl (by first | exact wI64 (by omega) | rfl) rfl ?_)
        refine WL.shl rfl rfl (by omega) (by show _ ≤ (64 : Int); omega) (shl7 hf) rfl ?_
        refine WL.bor rfl rfl (or7 hacc hf) rfl (WL.assign rfl rfl (WL.nil (WX.next (W.sub [(0, _), (1, _), (7, _), (8, _), (9, _), (18, _)] (.cons rfl (.cons rfl (.cons rfl (.cons rfl (.cons rfl (.cons rfl .nil)))))) (W.seq (W.region (WL.move rfl rfl (WL.lss rfl rfl rfl (WL.nil (WX.next (W.sub [(0, _), (1, _), (7, _), (8, _), (18, _), (56, _)] (.cons rfl (.cons rfl (.cons rfl (.cons rfl (.cons rfl (.cons rfl .nil)))))) (W.ite rfl (fun c8 => ?_) (fun c8 => ?_)))))))))))))
        ·refine W.seq (W.region (WL.move rfl rfl (WL.move rfl rfl (WL.move rfl rfl (WL.add rfl rfl (by first | exact wI64 (by omega) | rfl) rfl ?_)))))
         refine WL.add rfl rfl (by first | exact wI64 (by omega) | rfl) rfl ?_
         refine WL.assign rfl rfl (WL.assign rfl rfl (WL.assign rfl rfl (WL.nil (WX.next (W.sub [(4, _), (5, _), (6, _)] (.cons rfl (.cons rfl (.cons rfl .nil))) (W.ret (WX.blockRet (WX.thenRet (WX.thenRet (WX.blockRet (WX.thenRet (WX.scopeRet (WX.ret3 rfl rfl rfl rfl ?_)))))))))))))
         exact ⟨by rw [rdU_ok h0 h1 (by rw [← hL]; exact H.done (by omega) hkL hbad (by omega))]; exact rdUv_mk (by rw [Nat.mod_eq_of_lt (by omega)]) (by omega) rfl, rfl⟩
        ·refine W.skip (WX.blockNormal (WX.next (W.region (WL.add rfl rfl (by first | exact wI64 (by omega) | rfl) rfl ?_))))
         refine WL.move rfl rfl (WL.nil ?_)
         have hstep : accV L (k + 1) = accV L k + 128 ^ k * (L[k].toNat % 128) := by
          rw [accV_succ, show L[k]?.getD 0 = L[k] by simp [hkL], show L[k].toNat - 128 = L[k].toNat % 128 by omega]
         rw [← hstep]
         refine WX.round (k + 1) envSub.sf ⟨rfl, H.step (by omega) hkL hbad (by omega), h0, h1⟩ (by first | omega | (dsimp only; omega))
      ·refine WL.off rfl rfl rfl rfl (WL.off rfl rfl rfl rfl (WL.pickF rfl rfl rfl (WL.assign rfl rfl (WL.nil (WX.next (W.sub [(0, _), (1, _), (7, _), (8, _), (9, _), (18, _), (40, _)] (.cons rfl (.cons rfl (.cons rfl (.cons rfl (.cons rfl (.cons rfl (.cons rfl .nil))))))) (W.condF rfl (W.skip (WX.blockNormal (WX.next (W.seq (W.region ?_))))))))))))
       have hbad : ¬ ((k = 9 ∧ 1 < L[k].toNat) ∨ (L[k].toNat = 0 ∧ 0 < k)) := by omega
       have hf := fits7 (k := k) (x := L[k].toNat % 128) (by omega) (by omega) (by omega)
       refine WL.move rfl rfl (WL.move rfl rfl (WL.band rfl rfl (and127B _ (by omega)) rfl ?_))
       refine WL.conv Tryz.underlying5 Tryz.underlying47 rfl (by first | exact wU64 (by omega) | exact mU64 _ | rfl) rfl ?_
       refine WL.move rfl rfl (WL.mul rfl rfl (by first | exact wI64 (by omega) | rfl) rfl ?_)
       refine WL.shl rfl rfl (by omega) (by show _ ≤ (64 : Int); omega) (shl7 hf) rfl ?_
       refine WL.bor rfl rfl (or7 hacc hf) rfl (WL.assign rfl rfl (WL.nil (WX.next (W.sub [(0, _), (1, _), (7, _), (8, _), (9, _), (18, _)] (.cons rfl (.cons rfl (.cons rfl (.cons rfl (.cons rfl (.cons rfl .nil)))))) (W.seq (W.region (WL.move rfl rfl (WL.lss rfl rfl rfl (WL.nil (WX.next (W.sub [(0, _), (1, _), (7, _), (8, _), (18, _), (56, _)] (.cons rfl (.cons rfl (.cons rfl (.cons rfl (.cons rfl (.cons rfl .nil)))))) (W.ite rfl (fun c8 => ?_) (fun c8 => ?_)))))))))))))
       ·refine W.seq (W.region (WL.move rfl rfl (WL.move rfl rfl (WL.move rfl rfl (WL.add rfl rfl (by first | exact wI64 (by omega) | rfl) rfl ?_)))))
        refine WL.add rfl rfl (by first | exact wI64 (by omega) | rfl) rfl ?_
        refine WL.assign rfl rfl (WL.assign rfl rfl (WL.assign rfl rfl (WL.nil (WX.next (W.sub [(4, _), (5, _), (6, _)] (.cons rfl (.cons rfl (.cons rfl .nil))) (W.ret (WX.blockRet (WX.thenRet (WX.thenRet (WX.blockRet (WX.thenRet (WX.scopeRet (WX.ret3 rfl rfl rfl rfl ?_)))))))))))))
        exact ⟨by rw [rdU_ok h0 h1 (by rw [← hL]; exact H.done (by omega) hkL hbad (by omega))]; exact rdUv_mk (by rw [Nat.mod_eq_of_lt (by omega)]) (by omega) rfl, rfl⟩
       ·refine W.skip (WX.blockNormal (WX.next (W.region (WL.add rfl rfl (by first | exact wI64 (by omega) | rfl) rfl ?_))))
        refine WL.move rfl rfl (WL.nil ?_)
        have hstep : accV L (k + 1) = accV L k + 128 ^ k * (L[k].toNat % 128) := by
         rw [accV_succ, show L[k]?.getD 0 = L[k] by simp [hkL], show L[k].toNat - 128 = L[k].toNat % 128 by omega]
        rw [← hstep]
        refine WX.round (k + 1) envSub.sf ⟨rfl, H.step (by omega) hkL hbad (by omega), h0, h1⟩ (by first | omega | (dsimp only; omega))
   ·refine W.exit (WX.thenExit (WX.thenExit (WX.blockHere (WX.next (W.seq (W.region (WL.assign rfl rfl (WL.assign rfl rfl (WL.assign rfl rfl (WL.nil (WX.next (W.sub [(4, _), (5, _), (6, _)] (.cons rfl (.cons rfl (.cons rfl .nil))) (W.ret (WX.scopeRet (WX.ret3 rfl rfl rfl rfl ?_)))))))))))))))
    exact ⟨by rw [rdU_bad h0 h1 (e := 10) (by rw [← hL]; first | exact H.bad (by omega) hkL (by omega) | (obtain rfl : k = 10 := (by omega); exact H.end_))]; rfl, rfl⟩
theorem short_ok (A : Option Addr) (m cap : Nat) (at_ k : Int) (w : World) : Fn Tryz.prog 100 [.slice A m cap, .int .i64 at_, .int .i64 k] w fun v w' => v = rdUv (0, 0, if k = 10 then 11 else 10) ∧ w = w' := by
 refine Fn.enter Tryz.func100 rfl Tryz.ntmps100 rfl (W.sub [(0, _), (1, _), (2, _)] (.cons rfl (.cons rfl (.cons rfl .nil))) (W.seq (W.region (WL.assign rfl rfl (WL.assign rfl rfl (WL.assign rfl rfl (WL.nil (WX.next (W.sub [(2, _)] (.cons rfl .nil) (W.seq (W.seq (W.region (WL.move rfl rfl (WL.eqI rfl rfl rfl (WL.nil (WX.next (W.sub [(10, _)] (.cons rfl .nil) (W.ite rfl (fun c0 => ?_) (fun c0 => ?_)))))))))))))))))))
 ·refine W.seq (W.region (WL.assign rfl rfl (WL.assign rfl rfl (WL.assign rfl rfl (WL.nil (WX.next (W.sub [(6, _), (7, _), (8, _)] (.cons rfl (.cons rfl (.cons rfl .nil))) (W.ret (WX.thenRet (WX.ret3 rfl rfl rfl rfl ?_))))))))))
  exact ⟨by rw [if_pos c0]; rfl, rfl⟩
 ·refine W.skip (WX.next (W.seq (W.region (WL.assign rfl rfl (WL.assign rfl rfl (WL.assign rfl rfl (WL.nil (WX.next (W.sub [(6, _), (7, _), (8, _)] (.cons rfl (.cons rfl (.cons rfl .nil))) (W.ret (WX.ret3 rfl rfl rfl rfl ?_)))))))))))
  exact ⟨by rw [if_neg c0]; rfl, rfl⟩
theorem accV_horner {L : List UInt8} {i : Nat} (h : i < L.length) (v : Nat) : accV L (i + 1) + 128 ^ (i + 1) * v = accV L i + 128 ^ i * (v * 128 + (L[i].toNat - 128)) := by
 rw [accV_succ, show L[i]?.getD 0 = L[i] by simp [h], Nat.pow_succ, Nat.mul_add, Nat.mul_assoc, Nat.mul_comm 128 v]
 omega
theorem horner_lt {L : List UInt8} {i v x : Nat} (h : accV L i + 128 ^ i * (v * 128 + x) < 18446744073709551616) : v * 128 + x < 18446744073709551616 := by
 have hp : 0 < 128 ^ i := Nat.pow_pos (by decide)
 have := Nat.le_mul_of_pos_left (v * 128 + x) hp
 omega
/-- Reading back from the last byte: i bytes are left, v is what was read. -/
def Horner (L : List UInt8) (k i v : Nat) : Prop := accV L i + 128 ^ i * v = accV L k + 128 ^ k * (L[k]?.getD 0).toNat
theorem Horner.start {L : List UInt8} {k : Nat} (hk : k < L.length) : Horner L k k L[k].toNat := by
 unfold Horner
 rw [show L[k]?.getD 0 = L[k] by simp [hk]]
theorem Horner.step {L : List UInt8} {k i v : Nat} (h : Horner L k (i + 1) v) (hk : k < L.length) (hi : i < L.length) (h9 : k ≤ 9) (hx : L[k].toNat ≤ 127) (h1 : k = 9 → L[k].toNat ≤ 1) :
 Horner L k i (v * 128 + (L[i].toNat - 128)) ∧ v * 128 + (L[i].toNat - 128) < 18446744073709551616 := by
 unfold Horner at h ⊢
 have hx' := accV_horner hi v
 have hf := fits7 h9 hx h1
 have hacc := accV_lt L k
 rw [Nat.mul_comm _ (128 ^ k)] at hf
 rw [show L[k]?.getD 0 = L[k] by simp [hk]] at h ⊢
 rw [hx'] at h
 refine ⟨h, horner_lt (L := L) (i := i) ?_⟩
 rw [h]
 generalize 128 ^ k * L[k].toNat = X at *
 generalize 128 ^ k = Y at *
 generalize accV L k = Z at *
 omega
theorem Horner.done {L : List UInt8} {k v : Nat} (hk : k < L.length) (h : Horner L k 0 v) : v = accV L k + 128 ^ k * L[k].toNat := by
 unfold Horner at h
 rw [show L[k]?.getD 0 = L[k] by simp [hk]] at h
 simpa [accV_zero] using h
theorem refUint_ok (l : List UInt8) (A : Option Addr) (cap : Nat) (at_ : Int) (w : World) (h : RdB w A cap l) (hl : l.length ≤ 140737488355328) (ha : -9223372036854775808 ≤ at_ ∧ at_ ≤ 9223372036854775807) :
 Fn Tryz.prog 63 [.slice A l.length cap, .int .i64 at_] w fun v w' => v = rdUv (rdU l at_) ∧ w = w' := by
 refine Fn.enter Tryz.func63 rfl Tryz.ntmps63 rfl (W.sub [(0, _), (1, _)] (.cons rfl (.cons rfl .nil)) ?_)
 obtain ⟨L, hL⟩ : ∃ L, L = l.drop at_.toNat := ⟨_, rfl⟩
 have hLk : ∀ (k : Nat) (hk : k < L.length) (hi : (at_ + (k : Int)).toNat < l.length), 0 ≤ at_ → l[(at_ + (k : Int)).toNat]'hi = L[k] := fun k hk hi h0 => by
  subst hL
  rw [List.getElem_drop]
  congr 1
  omega
 have hLl : L.length = l.length - at_.toNat := by rw [hL]; simp
 refine W.seq (W.region (WL.assign rfl rfl (WL.assign rfl rfl (WL.assign rfl rfl (WL.nil (WX.next (W.sub [(0, _), (1, _)] (.cons rfl (.cons rfl .nil)) (W.seq (W.seq (W.region (WL.move rfl rfl (WL.lss rfl rfl rfl (WL.moveIf rfl rfl (fun c0 => ?_) (fun c0 => ?_))))))))))))))
 ·refine WL.off rfl rfl rfl rfl (WL.off rfl rfl rfl rfl (WL.off rfl rfl rfl rfl (WL.off rfl rfl rfl rfl (WL.pickT rfl rfl rfl (WL.nil (WX.next (W.sub [(0, _), (1, _), (18, _)] (.cons rfl (.cons rfl (.cons rfl .nil))) (W.condT rfl (W.seq (W.region (WL.assign rfl rfl (WL.assign rfl rfl (WL.assign rfl rfl (WL.nil (WX.next (W.sub [(4, _), (5, _), (6, _)] (.cons rfl (.cons rfl (.cons rfl .nil))) (W.ret (WX.thenRet (WX.ret3 rfl rfl rfl rfl ?_)))))))))))))))))))
  exact ⟨by rw [rdU_out (by omega)]; rfl, rfl⟩
 ·refine WL.on rfl rfl (WL.move rfl rfl (WL.on rfl rfl (WL.move rfl rfl (WL.on rfl rfl (WL.len Tryz.underlying84 rfl rfl (WL.on rfl rfl (WL.gtr rfl rfl rfl (WL.pickF rfl rfl rfl (WL.nil (WX.next (W.sub [(0, _), (1, _), (18, _)] (.cons rfl (.cons rfl (.cons rfl .nil))) (W.ite rfl (fun c1 => ?_) (fun c1 => ?_)))))))))))))
  ·refine W.seq (W.region (WL.assign rfl rfl (WL.assign rfl rfl (WL.assign rfl rfl (WL.nil (WX.next (W.sub [(4, _), (5, _), (6, _)] (.cons rfl (.cons rfl (.cons rfl .nil))) (W.ret (WX.thenRet (WX.ret3 rfl rfl rfl rfl ?_))))))))))
   exact ⟨by rw [rdU_out (by omega)]; rfl, rfl⟩
  ·refine W.skip (WX.next (W.seq (W.region (WL.assign rfl rfl (WL.nil (WX.next (W.sub [(0, _), (1, _), (7, _)] (.cons rfl (.cons rfl (.cons rfl .nil))) (W.joint (fun (k : Nat) => [(0, .slice A l.length cap), (1, .int .i64 at_), (7, .int .i64 (k : Int))]) (fun k w' => w = w' ∧ 0 ≤ at_ ∧ at_ ≤ l.length ∧ k ≤ 10 ∧ k ≤ L.length ∧ (∀ j, (h : j < L.length) → j < k → 128 ≤ L[j].toNat) ∧ (k < 10 → (h : k < L.length) → L[k].toNat < 128)) ?_ ?_))))))))
   ·refine W.block (W.loop (ι := Nat) (fun k => [(0, .slice A l.length cap), (1, .int .i64 at_), (7, .int .i64 (k : Int))]) (fun k w' => w = w' ∧ 0 ≤ at_ ∧ at_ ≤ l.length ∧ k ≤ 10 ∧ k ≤ L.length ∧ (∀ j, (h : j < L.length) → j < k → 128 ≤ L[j].toNat)) (fun k => 10 - k) (0) envSub.sf ⟨rfl, by omega, by omega, by omega, by omega, fun j _ hj => by omega⟩ ?_)
    rintro k _ ⟨rfl, h0, h1, hk, hkL, hm⟩
    refine W.sub [(0, _), (1, _), (7, _)] (.cons rfl (.cons rfl (.cons rfl .nil))) (W.seq (W.seq (W.region (WL.move rfl rfl (WL.lss rfl rfl rfl (WL.moveIf rfl rfl (fun c2 => ?_) (fun c2 => ?_)))))))
    ·refine WL.on rfl rfl (WL.move rfl rfl (WL.on rfl rfl (WL.move rfl rfl (WL.on rfl rfl (WL.add rfl rfl (by first | exact wI64 (by omega) | rfl) rfl ?_)))))
     refine WL.on rfl rfl (WL.move rfl rfl (WL.on rfl rfl (WL.len Tryz.underlying84 rfl rfl (WL.on rfl rfl (WL.lss rfl rfl rfl (WL.pickT rfl rfl rfl (WL.moveIf rfl rfl (fun c3 => ?_) (fun c3 => ?_))))))))
     ·refine WL.on rfl rfl (WL.move rfl rfl (WL.on rfl rfl (WL.move rfl rfl (WL.on rfl rfl (WL.move rfl rfl (WL.on rfl rfl (WL.add rfl rfl (by first | exact wI64 (by omega) | rfl) rfl ?_)))))))
      refine WL.on rfl rfl (WL.idxB Tryz.underlying84 Tryz.sizeOf5 rfl rfl (by assumption) rfl (by omega) (by omega) rfl ?_)
      intro ad4_15 had4_15
      try simp only [Int.toNat_natCast] at had4_15
      have hkL' : k < L.length := by omega
      rw [hLk k hkL' (by omega) h0] at had4_15
      refine WL.on rfl rfl (WL.load Tryz.isAgg5 rfl (by assumption) rfl ?_)
      refine WL.on rfl rfl (WL.geq rfl rfl rfl (WL.pickT rfl rfl rfl (WL.nil (WX.next (W.sub [(0, _), (1, _), (7, _), (37, _)] (.cons rfl (.cons rfl (.cons rfl (.cons rfl .nil)))) (W.ite rfl (fun c4 => ?_) (fun c4 => ?_)))))))
      ·refine W.skip (WX.next (W.block (W.region (WL.move rfl rfl (WL.add rfl rfl (by first | exact wI64 (by omega) | rfl) rfl ?_)))))
       refine WL.assign rfl rfl (WL.nil (WX.blockNormal ?_))
       refine WX.round (k + 1) envSub.sf ⟨rfl, h0, h1, by omega, by omega, fun j hj hjk => by rcases Nat.lt_or_ge j k with h2 | h2; exact hm j hj h2; obtain rfl : j = k := (by omega); omega⟩ (by first | omega | (dsimp only; omega))
      ·refine W.exit (WX.thenExit (WX.thenExit (WX.blockHere ?_)))
       refine WX.join (k) envSub.sf ⟨rfl, h0, h1, hk, hkL, hm, by first | (intro h2 h3; omega) | (intro h2 h3; exact absurd h2 (by omega))⟩
     ·refine WL.off rfl rfl rfl rfl (WL.off rfl rfl rfl rfl (WL.off rfl rfl rfl rfl (WL.off rfl rfl rfl rfl (WL.off rfl rfl rfl rfl (WL.off rfl rfl rfl rfl (WL.off rfl rfl rfl rfl (WL.pickF rfl rfl rfl (WL.nil (WX.next (W.sub [(0, _), (1, _), (7, _), (37, _)] (.cons rfl (.cons rfl (.cons rfl (.cons rfl .nil)))) (W.condF rfl (W.exit (WX.thenExit (WX.thenExit (WX.blockHere ?_)))))))))))))))
      refine WX.join (k) envSub.sf ⟨rfl, h0, h1, hk, hkL, hm, by first | (intro h2 h3; omega) | (intro h2 h3; exact absurd h2 (by omega))⟩
    ·refine WL.off rfl rfl rfl rfl (WL.off rfl rfl rfl rfl (WL.off rfl rfl rfl rfl (WL.off rfl rfl rfl rfl (WL.off rfl rfl rfl rfl (WL.off rfl rfl rfl rfl (WL.pickF rfl rfl rfl (WL.move rfl rfl (WL.off rfl rfl rfl rfl (WL.off rfl rfl rfl rfl (WL.off rfl rfl rfl rfl (WL.off rfl rfl rfl rfl (WL.off rfl rfl rfl rfl (WL.off rfl rfl rfl rfl (WL.off rfl rfl rfl rfl (WL.pickF rfl rfl rfl (WL.nil (WX.next (W.sub [(0, _), (1, _), (7, _), (37, _)] (.cons rfl (.cons rfl (.cons rfl (.cons rfl .nil)))) (W.condF rfl (W.exit (WX.thenExit (WX.thenExit (WX.blockHere ?_)))))))))))))))))))))))
     refine WX.join (k) envSub.sf ⟨rfl, h0, h1, hk, hkL, hm, by first | (intro h2 h3; omega) | (intro h2 h3; exact absurd h2 (by omega))⟩
   rintro k _ ⟨rfl, h0, h1, hk, hkL, hm, hs⟩
   refine W.sub [(0, _), (1, _), (7, _)] (.cons rfl (.cons rfl (.cons rfl .nil))) (W.seq (W.block (W.seq (W.region (WL.move rfl rfl (WL.eqI rfl rfl rfl (WL.assign rfl rfl (WL.nil (WX.next (W.sub [(0, _), (1, _), (7, _), (40, _)] (.cons rfl (.cons rfl (.cons rfl (.cons rfl .nil)))) (W.ite rfl (fun c5 => ?_) (fun c5 => ?_))))))))))))
   ·refine W.seq (W.region (WL.assign rfl rfl (WL.assign rfl rfl (WL.assign rfl rfl (WL.nil (WX.next (W.sub [(4, _), (5, _), (6, _)] (.cons rfl (.cons rfl (.cons rfl .nil))) (W.ret (WX.blockRet (WX.thenRet (WX.ret3 rfl rfl rfl rfl ?_)))))))))))
    obtain rfl : k = 10 := by omega
    have H := Inv.of_marked (l := L) 9 (by omega) (by omega) (fun j hj hn => hm j hj (by omega))
    have h9 := hm 9 (by omega) (by omega)
    exact ⟨by rw [rdU_bad h0 h1 (e := 10) (by rw [← hL]; exact H.bad (by omega) (by omega) (by omega))]; rfl, rfl⟩
   ·refine W.seq (W.region ?_)
    have H := Inv.of_marked (l := L) k (by omega) (by omega) hm
    refine WL.move rfl rfl (WL.move rfl rfl (WL.add rfl rfl (by first | exact wI64 (by omega) | rfl) rfl ?_))
    refine WL.move rfl rfl (WL.len Tryz.underlying84 rfl rfl (WL.geq rfl rfl rfl (WL.assign rfl rfl (WL.nil (WX.next (W.sub [(0, _), (1, _), (7, _), (43, _)] (.cons rfl (.cons rfl (.cons rfl (.cons rfl .nil)))) (W.ite rfl (fun c6 => ?_) (fun c6 => ?_))))))))
    ·refine W.seq (W.region (WL.move rfl rfl (WL.move rfl rfl (WL.move rfl rfl (WL.call Tryz.call100 rfl (short_ok _ _ _ _ _ _) rfl ?_)))))
     rintro _ _ ⟨rfl, rfl⟩
     rw [if_neg c5]
     refine WL.extract rfl rfl rfl (WL.extract rfl rfl rfl (WL.extract rfl rfl rfl (WL.assign rfl rfl (WL.assign rfl rfl (WL.assign rfl rfl (WL.nil (WX.next (W.sub [(4, _), (5, _), (6, _)] (.cons rfl (.cons rfl (.cons rfl .nil))) (W.ret (WX.blockRet (WX.thenRet (WX.ret3 rfl rfl rfl rfl ?_))))))))))))
     exact ⟨by rw [rdU_bad h0 h1 (e := 9) (by rw [← hL]; exact H.short (by omega) (by omega))]; rfl, rfl⟩
    ·refine W.skip (WX.blockNormal (WX.next (W.seq (W.region (WL.move rfl rfl (WL.move rfl rfl (WL.move rfl rfl (WL.add rfl rfl (by first | exact wI64 (by omega) | rfl) rfl ?_))))))))
     refine WL.idxB Tryz.underlying84 Tryz.sizeOf5 rfl rfl (by assumption) rfl (by omega) (by omega) rfl ?_
     intro ad10_4 had10_4
     try simp only [Int.toNat_natCast] at had10_4
     have hkL' : k < L.length := by omega
     rw [hLk k hkL' (by omega) h0] at had10_4
     have hs' := hs (by omega) hkL'
     refine WL.load Tryz.isAgg5 rfl (by assumption) rfl ?_
     refine WL.assign rfl rfl (WL.nil (WX.next (W.sub [(0, _), (1, _), (7, _), (8, _)] (.cons rfl (.cons rfl (.cons rfl (.cons rfl .nil)))) (W.seq (W.seq (W.region (WL.move rfl rfl (WL.gtr rfl rfl rfl (WL.moveIf rfl rfl (fun c7 => ?_) (fun c7 => ?_))))))))))
     ·refine WL.on rfl rfl (WL.move rfl rfl (WL.on rfl rfl (WL.eqI rfl rfl rfl (WL.pickT rfl rfl rfl (WL.moveIf rfl rfl (fun c8 => ?_) (fun c8 => ?_))))))
      ·refine WL.off rfl rfl rfl rfl (WL.off rfl rfl rfl rfl (WL.off rfl rfl rfl rfl (WL.offU rfl rfl rfl (WL.offU rfl rfl rfl (WL.off rfl rfl rfl rfl (WL.pickT rfl rfl rfl (WL.nil (WX.next (W.sub [(0, _), (1, _), (7, _), (8, _), (76, _)] (.cons rfl (.cons rfl (.cons rfl (.cons rfl (.cons rfl .nil))))) (W.condT rfl (W.seq (W.region (WL.assign rfl rfl (WL.assign rfl rfl (WL.assign rfl rfl (WL.nil (WX.next (W.sub [(4, _), (5, _), (6, _)] (.cons rfl (.cons rfl (.cons rfl .nil))) (W.ret (WX.thenRet (WX.ret3 rfl rfl rfl rfl ?_)))))))))))))))))))))
       exact ⟨by rw [rdU_bad h0 h1 (e := 10) (by rw [← hL]; exact H.bad (by omega) (by omega) (by omega))]; rfl, rfl⟩
      ·refine WL.on rfl rfl (WL.move rfl rfl (WL.on rfl rfl (WL.eqI rfl rfl rfl (WL.on rfl rfl (WL.moveIf rfl rfl (fun c9 => ?_) (fun c9 => ?_))))))
       ·refine WL.on rfl rfl (WL.move rfl rfl (WL.on rfl rfl (WL.gtr rfl rfl rfl (WL.on rfl rfl (WL.pickT rfl rfl rfl (WL.pickF rfl rfl rfl (WL.nil (WX.next (W.sub [(0, _), (1, _), (7, _), (8, _), (76, _)] (.cons rfl (.cons rfl (.cons rfl (.cons rfl (.cons rfl .nil))))) (W.ite rfl (fun c10 => ?_) (fun c10 => ?_)))))))))))
        ·refine W.seq (W.region (WL.assign rfl rfl (WL.assign rfl rfl (WL.assign rfl rfl (WL.nil (WX.next (W.sub [(4, _), (5, _), (6, _)] (.cons rfl (.cons rfl (.cons rfl .nil))) (W.ret (WX.thenRet (WX.ret3 rfl rfl rfl rfl ?_))))))))))
         exact ⟨by rw [rdU_bad h0 h1 (e := 10) (by rw [← hL]; exact H.bad (by omega) (by omega) (by omega))]; rfl, rfl⟩
        ·refine W.skip (WX.next (W.seq (W.region (WL.move rfl rfl (WL.conv Tryz.underlying5 Tryz.underlying47 rfl (by first | exact wU64 (by omega) | exact mU64 _ | rfl) rfl ?_)))))
         refine WL.assign rfl rfl (WL.nil (WX.next (W.sub [(0, _), (1, _), (7, _), (9, _)] (.cons rfl (.cons rfl (.cons rfl (.cons rfl .nil)))) (W.seq (W.seq (W.region (WL.move rfl rfl (WL.sub' rfl rfl (by first | exact wI64 (by omega) | rfl) rfl ?_))))))))
         refine WL.assign rfl rfl (WL.nil (WX.next (W.sub [(0, _), (1, _), (7, _), (9, _), (10, _)] (.cons rfl (.cons rfl (.cons rfl (.cons rfl (.cons rfl .nil))))) (W.block (W.loop (ι := Nat × Nat) (fun j => [(0, .slice A l.length cap), (1, .int .i64 at_), (7, .int .i64 (k : Int)), (9, .int .u64 (j.2 : Int)), (10, .int .i64 ((j.1 : Int) - 1))]) (fun j w' => w = w' ∧ j.1 ≤ k ∧ Horner L k j.1 j.2) (fun j => j.1) ((k, L[k].toNat)) envSub.sf ⟨rfl, Nat.le_refl _, Horner.start hkL'⟩ ?_)))))
         rintro ⟨i, v⟩ _ ⟨rfl, hi, hv⟩; dsimp only at hi hv
         refine W.sub [(0, _), (1, _), (7, _), (9, _), (10, _)] (.cons rfl (.cons rfl (.cons rfl (.cons rfl (.cons rfl .nil))))) (W.seq (W.seq (W.region (WL.move rfl rfl (WL.geq rfl rfl rfl (WL.nil (WX.next (W.sub [(0, _), (1, _), (7, _), (9, _), (10, _), (82, _)] (.cons rfl (.cons rfl (.cons rfl (.cons rfl (.cons rfl (.cons rfl .nil)))))) (W.ite rfl (fun c11 => ?_) (fun c11 => ?_))))))))))
         ·obtain ⟨i, rfl⟩ : ∃ t, i = t + 1 := ⟨i - 1, by omega⟩
          have hiL : i < L.length := by omega
          obtain ⟨hv', hlt⟩ := hv.step hkL' hiL (by omega) (by omega) (by omega)
          have h128 := hm i hiL (by omega)
          have hc8 := UInt8.toNat_lt (L[i]'hiL)
          rw [show ((i + 1 : Nat) : Int) - 1 = (i : Int) from by omega]
          refine W.skip (WX.next (W.seq (W.block (W.region (WL.move rfl rfl (WL.mul rfl rfl (by first | exact wU64 (by omega) | exact mU64 _ | rfl) rfl ?_))))))
          refine WL.move rfl rfl (WL.move rfl rfl (WL.move rfl rfl (WL.add rfl rfl (by first | exact wI64 (by omega) | rfl) rfl ?_)))
          refine WL.idxB Tryz.underlying84 Tryz.sizeOf5 rfl rfl (by assumption) rfl (by omega) (by omega) rfl ?_
          intro ad17_6 had17_6
          try simp only [Int.toNat_natCast] at had17_6
          rw [hLk i hiL (by omega) h0] at had17_6
          refine WL.load Tryz.isAgg5 rfl (by assumption) rfl ?_
          refine WL.sub' rfl rfl (by first | exact wU8 (by omega) | exact mU8 _ | rfl) rfl ?_
          refine WL.conv Tryz.underlying5 Tryz.underlying47 rfl (by first | exact wU64 (by omega) | exact mU64 _ | rfl) rfl ?_
          refine WL.add rfl rfl (by first | exact wU64 (by omega) | exact mU64 _ | rfl) rfl ?_
          refine WL.assign rfl rfl (WL.nil (WX.blockNormal (WX.next (W.sub [(0, _), (1, _), (7, _), (9, _), (10, _)] (.cons rfl (.cons rfl (.cons rfl (.cons rfl (.cons rfl .nil))))) (W.region (WL.move rfl rfl (WL.sub' rfl rfl (by first | exact wI64 (by omega) | rfl) rfl ?_)))))))
          refine WL.assign rfl rfl (WL.nil ?_)
          refine WX.round ((i, v * 128 + ((L[i]'hiL).toNat - 128))) envSub.sf ⟨rfl, by dsimp only; omega, hv'⟩ (by first | omega | (dsimp only; omega))
         ·refine W.exit (WX.thenExit (WX.thenExit (WX.blockHere (WX.next (W.seq (W.region (WL.move rfl rfl (WL.move rfl rfl (WL.move rfl rfl (WL.add rfl rfl (by first | exact wI64 (by omega) | rfl) rfl ?_))))))))))
          refine WL.add rfl rfl (by first | exact wI64 (by omega) | rfl) rfl ?_
          refine WL.assign rfl rfl (WL.assign rfl rfl (WL.assign rfl rfl (WL.nil (WX.next (W.sub [(4, _), (5, _), (6, _)] (.cons rfl (.cons rfl (.cons rfl .nil))) (W.ret (WX.ret3 rfl rfl rfl rfl ?_)))))))
          obtain rfl : i = 0 := by omega
          have hv0 := hv.done hkL'
          have hd := H.done (by omega) hkL' (by omega) hs'
          exact ⟨by rw [rdU_ok h0 h1 (by rw [← hL]; exact hd)]; exact rdUv_mk hv0 (by omega) rfl, rfl⟩
       ·refine WL.off rfl rfl rfl rfl (WL.off rfl rfl rfl rfl (WL.on rfl rfl (WL.pickF rfl rfl rfl (WL.pickF rfl rfl rfl (WL.nil (WX.next (W.sub [(0, _), (1, _), (7, _), (8, _), (76, _)] (.cons rfl (.cons rfl (.cons rfl (.cons rfl (.cons rfl .nil))))) (W.condF rfl (W.skip (WX.next (W.seq (W.region (WL.move rfl rfl (WL.conv Tryz.underlying5 Tryz.underlying47 rfl (by first | exact wU64 (by omega) | exact mU64 _ | rfl) rfl ?_))))))))))))))
        refine WL.assign rfl rfl (WL.nil (WX.next (W.sub [(0, _), (1, _), (7, _), (9, _)] (.cons rfl (.cons rfl (.cons rfl (.cons rfl .nil)))) (W.seq (W.seq (W.region (WL.move rfl rfl (WL.sub' rfl rfl (by first | exact wI64 (by omega) | rfl) rfl ?_))))))))
        refine WL.assign rfl rfl (WL.nil (WX.next (W.sub [(0, _), (1, _), (7, _), (9, _), (10, _)] (.cons rfl (.cons rfl (.cons rfl (.cons rfl (.cons rfl .nil))))) (W.block (W.loop (ι := Nat × Nat) (fun j => [(0, .slice A l.length cap), (1, .int .i64 at_), (7, .int .i64 (k : Int)), (9, .int .u64 (j.2 : Int)), (10, .int .i64 ((j.1 : Int) - 1))]) (fun j w' => w = w' ∧ j.1 ≤ k ∧ Horner L k j.1 j.2) (fun j => j.1) ((k, L[k].toNat)) envSub.sf ⟨rfl, Nat.le_refl _, Horner.start hkL'⟩ ?_)))))
        rintro ⟨i, v⟩ _ ⟨rfl, hi, hv⟩; dsimp only at hi hv
        refine W.sub [(0, _), (1, _), (7, _), (9, _), (10, _)] (.cons rfl (.cons rfl (.cons rfl (.cons rfl (.cons rfl .nil))))) (W.seq (W.seq (W.region (WL.move rfl rfl (WL.geq rfl rfl rfl (WL.nil (WX.next (W.sub [(0, _), (1, _), (7, _), (9, _), (10, _), (82, _)] (.cons rfl (.cons rfl (.cons rfl (.cons rfl (.cons rfl (.cons rfl .nil)))))) (W.ite rfl (fun c11 => ?_) (fun c11 => ?_))))))))))
        ·obtain ⟨i, rfl⟩ : ∃ t, i = t + 1 := ⟨i - 1, by omega⟩
         have hiL : i < L.length := by omega
         obtain ⟨hv', hlt⟩ := hv.step hkL' hiL (by omega) (by omega) (by omega)
         have h128 := hm i hiL (by omega)
         have hc8 := UInt8.toNat_lt (L[i]'hiL)
         rw [show ((i + 1 : Nat) : Int) - 1 = (i : Int) from by omega]
         refine W.skip (WX.next (W.seq (W.block (W.region (WL.move rfl rfl (WL.mul rfl rfl (by first | exact wU64 (by omega) | exact mU64 _ | rfl) rfl ?_))))))
         refine WL.move rfl rfl (WL.move rfl rfl (WL.move rfl rfl (WL.add rfl rfl (by first | exact wI64 (by omega) | rfl) rfl ?_)))
         refine WL.idxB Tryz.underlying84 Tryz.sizeOf5 rfl rfl (by assumption) rfl (by omega) (by omega) rfl ?_
         intro ad17_6 had17_6
         try simp only [Int.toNat_natCast] at had17_6
         rw [hLk i hiL (by omega) h0] at had17_6
         refine WL.load Tryz.isAgg5 rfl (by assumption) rfl ?_
         refine WL.sub' rfl rfl (by first | exact wU8 (by omega) | exact mU8 _ | rfl) rfl ?_
         refine WL.conv Tryz.underlying5 Tryz.underlying47 rfl (by first | exact wU64 (by omega) | exact mU64 _ | rfl) rfl ?_
         refine WL.add rfl rfl (by first | exact wU64 (by omega) | exact mU64 _ | rfl) rfl ?_
         refine WL.assign rfl rfl (WL.nil (WX.blockNormal (WX.next (W.sub [(0, _), (1, _), (7, _), (9, _), (10, _)] (.cons rfl (.cons rfl (.cons rfl (.cons rfl (.cons rfl .nil))))) (W.region (WL.move rfl rfl (WL.sub' rfl rfl (by first | exact wI64 (by omega) | rfl) rfl ?_)))))))
         refine WL.assign rfl rfl (WL.nil ?_)
         refine WX.round ((i, v * 128 + ((L[i]'hiL).toNat - 128))) envSub.sf ⟨rfl, by dsimp only; omega, hv'⟩ (by first | omega | (dsimp only; omega))
        ·refine W.exit (WX.thenExit (WX.thenExit (WX.blockHere (WX.next (W.seq (W.region (WL.move rfl rfl (WL.move rfl rfl (WL.move rfl rfl (WL.add rfl rfl (by first | exact wI64 (by omega) | rfl) rfl ?_))))))))))
         refine WL.add rfl rfl (by first | exact wI64 (by omega) | rfl) rfl ?_
         refine WL.assign rfl rfl (WL.assign rfl rfl (WL.assign rfl rfl (WL.nil (WX.next (W.sub [(4, _), (5, _), (6, _)] (.cons rfl (.cons rfl (.cons rfl .nil))) (W.ret (WX.ret3 rfl rfl rfl rfl ?_)))))))
         obtain rfl : i = 0 := by omega
         have hv0 := hv.done hkL'
         have hd := H.done (by omega) hkL' (by omega) hs'
         exact ⟨by rw [rdU_ok h0 h1 (by rw [← hL]; exact hd)]; exact rdUv_mk hv0 (by omega) rfl, rfl⟩
     ·refine WL.off rfl rfl rfl rfl (WL.off rfl rfl rfl rfl (WL.pickF rfl rfl rfl (WL.move rfl rfl (WL.on rfl rfl (WL.move rfl rfl (WL.on rfl rfl (WL.eqI rfl rfl rfl (WL.on rfl rfl (WL.moveIf rfl rfl (fun c9 => ?_) (fun c9 => ?_))))))))))
      ·refine WL.on rfl rfl (WL.move rfl rfl (WL.on rfl rfl (WL.gtr rfl rfl rfl (WL.on rfl rfl (WL.pickT rfl rfl rfl (WL.pickF rfl rfl rfl (WL.nil (WX.next (W.sub [(0, _), (1, _), (7, _), (8, _), (76, _)] (.cons rfl (.cons rfl (.cons rfl (.cons rfl (.cons rfl .nil))))) (W.ite rfl (fun c10 => ?_) (fun c10 => ?_)))))))))))
       ·refine W.seq (W.region (WL.assign rfl rfl (WL.assign rfl rfl (WL.assign rfl rfl (WL.nil (WX.next (W.sub [(4, _), (5, _), (6, _)] (.cons rfl (.cons rfl (.cons rfl .nil))) (W.ret (WX.thenRet (WX.ret3 rfl rfl rfl rfl ?_))))))))))
        exact ⟨by rw [rdU_bad h0 h1 (e := 10) (by rw [← hL]; exact H.bad (by omega) (by omega) (by omega))]; rfl, rfl⟩
       ·refine W.skip (WX.next (W.seq (W.region (WL.move rfl rfl (WL.conv Tryz.underlying5 Tryz.underlying47 rfl (by first | exact wU64 (by omega) | exact mU64 _ | rfl) rfl ?_)))))
        refine WL.assign rfl rfl (WL.nil (WX.next (W.sub [(0, _), (1, _), (7, _), (9, _)] (.cons rfl (.cons rfl (.cons rfl (.cons rfl .nil)))) (W.seq (W.seq (W.region (WL.move rfl rfl (WL.sub' rfl rfl (by first | exact wI64 (by omega) | rfl) rfl ?_))))))))
        refine WL.assign rfl rfl (WL.nil (WX.next (W.sub [(0, _), (1, _), (7, _), (9, _), (10, _)] (.cons rfl (.cons rfl (.cons rfl (.cons rfl (.cons rfl .nil))))) (W.block (W.loop (ι := Nat × Nat) (fun j => [(0, .slice A l.length cap), (1, .int .i64 at_), (7, .int .i64 (k : Int)), (9, .int .u64 (j.2 : Int)), (10, .int .i64 ((j.1 : Int) - 1))]) (fun j w' => w = w' ∧ j.1 ≤ k ∧ Horner L k j.1 j.2) (fun j => j.1) ((k, L[k].toNat)) envSub.sf ⟨rfl, Nat.le_refl _, Horner.start hkL'⟩ ?_)))))
        rintro ⟨i, v⟩ _ ⟨rfl, hi, hv⟩; dsimp only at hi hv
        refine W.sub [(0, _), (1, _), (7, _), (9, _), (10, _)] (.cons rfl (.cons rfl (.cons rfl (.cons rfl (.cons rfl .nil))))) (W.seq (W.seq (W.region (WL.move rfl rfl (WL.geq rfl rfl rfl (WL.nil (WX.next (W.sub [(0, _), (1, _), (7, _), (9, _), (10, _), (82, _)] (.cons rfl (.cons rfl (.cons rfl (.cons rfl (.cons rfl (.cons rfl .nil)))))) (W.ite rfl (fun c11 => ?_) (fun c11 => ?_))))))))))
        ·obtain ⟨i, rfl⟩ : ∃ t, i = t + 1 := ⟨i - 1, by omega⟩
         have hiL : i < L.length := by omega
         obtain ⟨hv', hlt⟩ := hv.step hkL' hiL (by omega) (by omega) (by omega)
         have h128 := hm i hiL (by omega)
         have hc8 := UInt8.toNat_lt (L[i]'hiL)
         rw [show ((i + 1 : Nat) : Int) - 1 = (i : Int) from by omega]
         refine W.skip (WX.next (W.seq (W.block (W.region (WL.move rfl rfl (WL.mul rfl rfl (by first | exact wU64 (by omega) | exact mU64 _ | rfl) rfl ?_))))))
         refine WL.move rfl rfl (WL.move rfl rfl (WL.move rfl rfl (WL.add rfl rfl (by first | exact wI64 (by omega) | rfl) rfl ?_)))
         refine WL.idxB Tryz.underlying84 Tryz.sizeOf5 rfl rfl (by assumption) rfl (by omega) (by omega) rfl ?_
         intro ad17_6 had17_6
         try simp only [Int.toNat_natCast] at had17_6
         rw [hLk i hiL (by omega) h0] at had17_6
         refine WL.load Tryz.isAgg5 rfl (by assumption) rfl ?_
         refine WL.sub' rfl rfl (by first | exact wU8 (by omega) | exact mU8 _ | rfl) rfl ?_
         refine WL.conv Tryz.underlying5 Tryz.underlying47 rfl (by first | exact wU64 (by omega) | exact mU64 _ | rfl) rfl ?_
         refine WL.add rfl rfl (by first | exact wU64 (by omega) | exact mU64 _ | rfl) rfl ?_
         refine WL.assign rfl rfl (WL.nil (WX.blockNormal (WX.next (W.sub [(0, _), (1, _), (7, _), (9, _), (10, _)] (.cons rfl (.cons rfl (.cons rfl (.cons rfl (.cons rfl .nil))))) (W.region (WL.move rfl rfl (WL.sub' rfl rfl (by first | exact wI64 (by omega) | rfl) rfl ?_)))))))
         refine WL.assign rfl rfl (WL.nil ?_)
         refine WX.round ((i, v * 128 + ((L[i]'hiL).toNat - 128))) envSub.sf ⟨rfl, by dsimp only; omega, hv'⟩ (by first | omega | (dsimp only; omega))
        ·refine W.exit (WX.thenExit (WX.thenExit (WX.blockHere (WX.next (W.seq (W.region (WL.move rfl rfl (WL.move rfl rfl (WL.move rfl rfl (WL.add rfl rfl (by first | exact wI64 (by omega) | rfl) rfl ?_))))))))))
         refine WL.add rfl rfl (by first | exact wI64 (by omega) | rfl) rfl ?_
         refine WL.assign rfl rfl (WL.assign rfl rfl (WL.assign rfl rfl (WL.nil (WX.next (W.sub [(4, _), (5, _), (6, _)] (.cons rfl (.cons rfl (.cons rfl .nil))) (W.ret (WX.ret3 rfl rfl rfl rfl ?_)))))))
         obtain rfl : i = 0 := by omega
         have hv0 := hv.done hkL'
         have hd := H.done (by omega) hkL' (by omega) hs'
         exact ⟨by rw [rdU_ok h0 h1 (by rw [← hL]; exact hd)]; exact rdUv_mk hv0 (by omega) rfl, rfl⟩
      ·refine WL.off rfl rfl rfl rfl (WL.off rfl rfl rfl rfl (WL.on rfl rfl (WL.pickF rfl rfl rfl (WL.pickF rfl rfl rfl (WL.nil (WX.next (W.sub [(0, _), (1, _), (7, _), (8, _), (76, _)] (.cons rfl (.cons rfl (.cons rfl (.cons rfl (.cons rfl .nil))))) (W.condF rfl (W.skip (WX.next (W.seq (W.region (WL.move rfl rfl (WL.conv Tryz.underlying5 Tryz.underlying47 rfl (by first | exact wU64 (by omega) | exact mU64 _ | rfl) rfl ?_))))))))))))))
       refine WL.assign rfl rfl (WL.nil (WX.next (W.sub [(0, _), (1, _), (7, _), (9, _)] (.cons rfl (.cons rfl (.cons rfl (.cons rfl .nil)))) (W.seq (W.seq (W.region (WL.move rfl rfl (WL.sub' rfl rfl (by first | exact wI64 (by omega) | rfl) rfl ?_))))))))
       refine WL.assign rfl rfl (WL.nil (WX.next (W.sub [(0, _), (1, _), (7, _), (9, _), (10, _)] (.cons rfl (.cons rfl (.cons rfl (.cons rfl (.cons rfl .nil))))) (W.block (W.loop (ι := Nat × Nat) (fun j => [(0, .slice A l.length cap), (1, .int .i64 at_), (7, .int .i64 (k : Int)), (9, .int .u64 (j.2 : Int)), (10, .int .i64 ((j.1 : Int) - 1))]) (fun j w' => w = w' ∧ j.1 ≤ k ∧ Horner L k j.1 j.2) (fun j => j.1) ((k, L[k].toNat)) envSub.sf ⟨rfl, Nat.le_refl _, Horner.start hkL'⟩ ?_)))))
       rintro ⟨i, v⟩ _ ⟨rfl, hi, hv⟩; dsimp only at hi hv
       refine W.sub [(0, _), (1, _), (7, _), (9, _), (10, _)] (.cons rfl (.cons rfl (.cons rfl (.cons rfl (.cons rfl .nil))))) (W.seq (W.seq (W.region (WL.move rfl rfl (WL.geq rfl rfl rfl (WL.nil (WX.next (W.sub [(0, _), (1, _), (7, _), (9, _), (10, _), (82, _)] (.cons rfl (.cons rfl (.cons rfl (.cons rfl (.cons rfl (.cons rfl .nil)))))) (W.ite rfl (fun c11 => ?_) (fun c11 => ?_))))))))))
       ·obtain ⟨i, rfl⟩ : ∃ t, i = t + 1 := ⟨i - 1, by omega⟩
        have hiL : i < L.length := by omega
        obtain ⟨hv', hlt⟩ := hv.step hkL' hiL (by omega) (by omega) (by omega)
        have h128 := hm i hiL (by omega)
        have hc8 := UInt8.toNat_lt (L[i]'hiL)
        rw [show ((i + 1 : Nat) : Int) - 1 = (i : Int) from by omega]
        refine W.skip (WX.next (W.seq (W.block (W.region (WL.move rfl rfl (WL.mul rfl rfl (by first | exact wU64 (by omega) | exact mU64 _ | rfl) rfl ?_))))))
        refine WL.move rfl rfl (WL.move rfl rfl (WL.move rfl rfl (WL.add rfl rfl (by first | exact wI64 (by omega) | rfl) rfl ?_)))
        refine WL.idxB Tryz.underlying84 Tryz.sizeOf5 rfl rfl (by assumption) rfl (by omega) (by omega) rfl ?_
        intro ad17_6 had17_6
        try simp only [Int.toNat_natCast] at had17_6
        rw [hLk i hiL (by omega) h0] at had17_6
        refine WL.load Tryz.isAgg5 rfl (by assumption) rfl ?_
        refine WL.sub' rfl rfl (by first | exact wU8 (by omega) | exact mU8 _ | rfl) rfl ?_
        refine WL.conv Tryz.underlying5 Tryz.underlying47 rfl (by first | exact wU64 (by omega) | exact mU64 _ | rfl) rfl ?_
        refine WL.add rfl rfl (by first | exact wU64 (by omega) | exact mU64 _ | rfl) rfl ?_
        refine WL.assign rfl rfl (WL.nil (WX.blockNormal (WX.next (W.sub [(0, _), (1, _), (7, _), (9, _), (10, _)] (.cons rfl (.cons rfl (.cons rfl (.cons rfl (.cons rfl .nil))))) (W.region (WL.move rfl rfl (WL.sub' rfl rfl (by first | exact wI64 (by omega) | rfl) rfl ?_)))))))
        refine WL.assign rfl rfl (WL.nil ?_)
        refine WX.round ((i, v * 128 + ((L[i]'hiL).toNat - 128))) envSub.sf ⟨rfl, by dsimp only; omega, hv'⟩ (by first | omega | (dsimp only; omega))
       ·refine W.exit (WX.thenExit (WX.thenExit (WX.blockHere (WX.next (W.seq (W.region (WL.move rfl rfl (WL.move rfl rfl (WL.move rfl rfl (WL.add rfl rfl (by first | exact wI64 (by omega) | rfl) rfl ?_))))))))))
        refine WL.add rfl rfl (by first | exact wI64 (by omega) | rfl) rfl ?_
        refine WL.assign rfl rfl (WL.assign rfl rfl (WL.assign rfl rfl (WL.nil (WX.next (W.sub [(4, _), (5, _), (6, _)] (.cons rfl (.cons rfl (.cons rfl .nil))) (W.ret (WX.ret3 rfl rfl rfl rfl ?_)))))))
        obtain rfl : i = 0 := by omega
        have hv0 := hv.done hkL'
        have hd := H.done (by omega) hkL' (by omega) hs'
        exact ⟨by rw [rdU_ok h0 h1 (by rw [← hL]; exact hd)]; exact rdUv_mk hv0 (by omega) rfl, rfl⟩
end Go.Proofs.YtlminileigfkcaaGreat
namespace Go.Proofs.YtlminileigfkcaaGreat
open Go Go.RowKit Bin
namespace Bin
end Bin
theorem refPutUint_ok (m : Nat) (hm : m < 18446744073709551616) (w : World) : Fn Tryz.prog 102 [.int .u64 (m : Int)] w fun v w' =>
 ∃ A cap, v = .slice A (put m).length cap ∧ Mem w w' [Asr.own 5 1 A (put m).length cap (bs (put m))] := by
 have m0 := (Mem.refl w).nilOwn 5 1
 refine Fn.enter Tryz.func102 rfl Tryz.ntmps102 rfl (W.sub [(0, _)] (.cons rfl .nil) (W.seq (W.region (WL.assign rfl rfl (WL.nil (WX.next (W.sub [(0, _)] (.cons rfl .nil) (W.seq (W.region (WL.assign rfl rfl (WL.nil (WX.next (W.sub [(0, _), (3, _)] (.cons rfl (.cons rfl .nil)) (W.seq (W.block ?_)))))))))))))))
 refine W.loop (ι := Nat × List UInt8 × Option Addr × Nat) (fun x => [(0, .int .u64 (x.1 : Int)), (3, .slice x.2.2.1 x.2.1.length x.2.2.2)]) (fun x w' => x.1 < 18446744073709551616 ∧ put m = x.2.1 ++ putF (10 - x.2.1.length) x.1 ∧ x.2.1.length < 10 ∧ x.1 < 128 ^ (10 - x.2.1.length) ∧ Mem w w' [Asr.own 5 1 x.2.2.1 x.2.1.length x.2.2.2 (bs x.2.1)]) (fun x => 10 - x.2.1.length) ((m, [], none, 0)) envSub.sf ⟨hm, rfl, by simp, by dsimp only [List.length_nil]; omega, m0⟩ ?_
 rintro ⟨x, out, A, cap⟩ w1 ⟨hx, hp, hl, hlt, m1⟩; dsimp only at hx hp hl hlt m1
 refine W.sub [(0, _), (3, _)] (.cons rfl (.cons rfl .nil)) (W.seq (W.seq (W.region (WL.move rfl rfl (WL.geq rfl rfl rfl (WL.nil (WX.next (W.sub [(0, _), (3, _), (5, _)] (.cons rfl (.cons rfl (.cons rfl .nil))) (W.ite rfl (fun c0 => ?_) (fun c0 => ?_))))))))))
 ·refine W.skip (WX.next (W.block (W.seq (W.region (WL.move rfl rfl (WL.move rfl rfl (WL.rem rfl rfl (by omega) (remN (by omega)) rfl ?_)))))))
  refine WL.conv Tryz.underlying47 Tryz.underlying5 rfl (wU8 (by omega)) rfl ?_
  refine WL.add rfl rfl (wU8 (by omega)) rfl ?_
  refine WL.buildS Tryz.elem5 (by assumption) rfl rfl rfl (by simp [Value.oneCell']) rfl rfl ?_
  intro g1 w2 m2
  have hb1 : Value.int .u8 ((x : Int) % 128 + 128) = bv (UInt8.ofNat (x % 128 + 128)) := by
   rw [← bv_ofNat (by omega)]; congr 1
  rw [hb1] at m2
  refine WL.appendB Tryz.elem5 rfl rfl m2.f1 (m2.rdOwnB (l := [UInt8.ofNat (x % 128 + 128)])) rfl rfl (by simp; omega) rfl ?_
  intro A2 cap2 w3 m3
  refine WL.assign rfl rfl (WL.nil (WX.next (W.sub [(0, _), (3, _)] (.cons rfl (.cons rfl .nil)) (W.region (WL.move rfl rfl (WL.quo rfl rfl (by omega) (quoU64 (by omega)) rfl ?_))))))
  refine WL.assign rfl rfl (WL.nil (WX.blockNormal ?_))
  have hstep : putF (10 - out.length) x = UInt8.ofNat (x % 128 + 128) :: putF (10 - (out ++ [UInt8.ofNat (x % 128 + 128)]).length) (x / 128) := by
   rw [show 10 - out.length = (9 - out.length) + 1 by omega, putF, if_neg (by omega), List.length_append, List.length_singleton]
   congr 2
   omega
  have hlt2 : out.length < 9 := by
   refine Nat.lt_of_not_le fun hge => ?_
   obtain h9 : out.length = 9 := by omega
   rw [h9] at hlt
   omega
  have hlt3 : x / 128 < 128 ^ (10 - (out ++ [UInt8.ofNat (x % 128 + 128)]).length) := by
   rw [List.length_append, List.length_singleton, Nat.div_lt_iff_lt_mul (by decide), ← Nat.pow_succ, show (10 - (out.length + 1)).succ = 10 - out.length by omega]
   exact hlt
  refine WX.round ((x / 128, out ++ [UInt8.ofNat (x % 128 + 128)], A2, cap2)) envSub.sf ⟨by dsimp only; omega, by dsimp only; rw [hp, hstep]; simp, by simp; omega, hlt3, m3.drop1⟩ (by simp; omega)
 ·refine W.exit (WX.thenExit (WX.thenExit (WX.blockHere (WX.next (W.seq (W.region ?_))))))
  have hx8 : x < 128 := by omega
  have hend : put m = out ++ [UInt8.ofNat x] := by
   rw [hp, show 10 - out.length = (9 - out.length) + 1 by omega, putF, if_pos hx8]
  refine WL.move rfl rfl (WL.move rfl rfl (WL.conv Tryz.underlying47 Tryz.underlying5 rfl (wU8 (by omega)) rfl ?_))
  refine WL.buildS Tryz.elem5 (by assumption) rfl rfl rfl (by simp [Value.oneCell']) rfl rfl ?_
  intro g1 w2 m2
  rw [bv_ofNat (x := x) (by omega)] at m2
  refine WL.appendB Tryz.elem5 rfl rfl m2.f1 (m2.rdOwnB (l := [UInt8.ofNat x])) rfl rfl (by simp; omega) rfl ?_
  intro A2 cap2 w3 m3
  refine WL.assign rfl rfl (WL.nil (WX.next (W.sub [(2, _)] (.cons rfl .nil) (W.ret (WX.ret1 rfl rfl ?_)))))
  rw [hend]
  exact ⟨A2, cap2, rfl, m3.drop1⟩
namespace Bin
theorem rdU_cases (b : List UInt8) (at_ : Int) : (∃ n k : Nat, rdU b at_ = (n, at_ + k, 0) ∧ 0 ≤ at_ ∧ getF 10 0 (b.drop at_.toNat) = (0, n, k)) ∨ (∃ e : Nat, rdU b at_ = (0, 0, ((e + 1 : Nat) : Int))) := by
 unfold rdU
 split
 ·exact .inr ⟨1, rfl⟩
 ·rename_i h
  generalize getF 10 0 (b.drop at_.toNat) = x
  obtain ⟨e, n, k⟩ := x
  cases e with
  | zero => exact .inl ⟨n, k, rfl, by omega, rfl⟩
  | succ e => exact .inr ⟨e, rfl⟩
/-- What was read is a number of 64 bits, and it took some of the bytes. -/
theorem getF_lt : ∀ (f i : Nat) (l : List UInt8) (n k : Nat), f + i = 10 → getF f i l = (0, n, k) → k ≤ l.length ∧ 1 ≤ k ∧ k ≤ f ∧ n < (if i = 10 then 1 else 2 * 128 ^ (9 - i))
 | 0, _, _, _, _, _, h => by simp [getF] at h
 | f + 1, i, [], _, _, _, h => by simp [getF] at h
 | f + 1, i, c :: r, n, k, hfi, h => by
   rw [getF] at h
   have hc := UInt8.toNat_lt c
   split at h
   ·simp at h
   ·rename_i hbad
    have hp : 1 ≤ 128 ^ (9 - i) := Nat.pow_pos (by decide)
    split at h
    ·simp only [Prod.mk.injEq, true_and] at h
     obtain ⟨rfl, rfl⟩ := h
     refine ⟨by simp, by omega, by omega, ?_⟩
     rw [if_neg (by omega)]
     by_cases h9 : i = 9
     ·subst h9
      simp
      omega
     ·rw [show 9 - i = (8 - i) + 1 by omega, Nat.pow_succ]
      have : 1 ≤ 128 ^ (8 - i) := Nat.pow_pos (by decide)
      omega
    ·generalize hx : getF f (i + 1) r = x at h
     obtain ⟨e, n', k'⟩ := x
     cases e with
     | succ e => simp at h
     | zero =>
       simp only [Prod.mk.injEq, true_and] at h
       obtain ⟨rfl, rfl⟩ := h
       obtain ⟨h1, h2, h3, h4⟩ := getF_lt f (i + 1) r n' k' (by omega) hx
       refine ⟨by simp; omega, by omega, by omega, ?_⟩
       have h9 : i ≠ 9 := by
        rintro rfl
        have : f = 0 := by omega
        subst this
        simp [getF] at hx
       rw [if_neg (by omega)] at h4
       rw [if_neg (by omega), show 9 - i = (9 - (i + 1)) + 1 by omega, Nat.pow_succ]
       omega
theorem rdU_lt (b : List UInt8) (at_ : Int) : (rdU b at_).1 < 18446744073709551616 := by
 rcases rdU_cases b at_ with ⟨n, k, h, _, hg⟩ | ⟨e, h⟩
 ·rw [h]
  have := (getF_lt 10 0 _ n k rfl hg).2.2.2
  simpa using this
 ·rw [h]; simp
end Bin
end Go.Proofs.YtlminileigfkcaaGreat
namespace Go.Proofs.YtlminileigfkcaaGreat
open Go Go.RowKit Bin
namespace Bin
def rdB (b : List UInt8) (at_ most : Int) : List UInt8 × Int × Int :=
 if (rdU b at_).2.2 ≠ 0 then ([], 0, (rdU b at_).2.2)
 else if ((rdU b at_).1 : Int) > max most 0 then ([], 0, 3)
 else if ((rdU b at_).1 : Int) > (b.length : Int) - (rdU b at_).2.1 then ([], 0, 10)
 else ((b.drop (rdU b at_).2.1.toNat).take (rdU b at_).1, (rdU b at_).2.1 + (rdU b at_).1, 0)
theorem rdU_to {b : List UInt8} {at_ : Int} (h : (rdU b at_).2.2 = 0) : 0 ≤ at_ ∧ at_ < (rdU b at_).2.1 ∧ (rdU b at_).2.1 ≤ b.length ∧ (rdU b at_).2.1 ≤ at_ + 10 := by
 rcases rdU_cases b at_ with ⟨n, k, e, h0, hg⟩ | ⟨e', e⟩
 ·have h1 := getF_lt 10 0 _ n k rfl hg
  rw [List.length_drop] at h1
  rw [e]
  dsimp only
  omega
 ·rw [e] at h
  dsimp only at h
  omega
end Bin
theorem Bytes_ok (l : List UInt8) (A : Option Addr) (cap : Nat) (at_ most : Int) (w : World) (h : RdB w A cap l) (hl : l.length ≤ 140737488355328) (ha : -9223372036854775808 ≤ at_ ∧ at_ ≤ 9223372036854775807)
 (hmo : -9223372036854775808 ≤ most ∧ most ≤ 9223372036854775807) : Fn Tryz.prog 91 [.slice A l.length cap, .int .i64 at_, .int .i64 most] w fun v w' =>
 ∃ A' cap', v = .tuple #[.slice A' (rdB l at_ most).1.length cap', .int .i64 (rdB l at_ most).2.1, .int .i64 (rdB l at_ most).2.2] ∧ Mem w w' [Asr.own 5 1 A' (rdB l at_ most).1.length cap' (bs (rdB l at_ most).1)] := by
 have hlt := rdU_lt l at_
 have m0 := Mem.refl w
 refine Fn.enter Tryz.func91 rfl Tryz.ntmps91 rfl (W.sub [(0, _), (1, _), (2, _)] (.cons rfl (.cons rfl (.cons rfl .nil))) (W.seq (W.region (WL.assign rfl rfl (WL.assign rfl rfl (WL.assign rfl rfl (WL.nil (WX.next (W.sub [(0, _), (1, _), (2, _)] (.cons rfl (.cons rfl (.cons rfl .nil))) (W.seq (W.region (WL.move rfl rfl (WL.move rfl rfl (WL.call Tryz.call86 rfl (Uint_ok l A cap at_ w h hl ha) rfl ?_))))))))))))))
 rintro _ _ ⟨rfl, rfl⟩
 refine WL.move rfl rfl (WL.extract rfl rfl rfl (WL.extract rfl rfl rfl (WL.extract rfl rfl rfl (WL.assign rfl rfl (WL.assign rfl rfl (WL.assign rfl rfl (WL.nil (WX.next (W.sub [(0, _), (2, _), (9, _), (10, _), (11, _)] (.cons rfl (.cons rfl (.cons rfl (.cons rfl (.cons rfl .nil))))) (W.seq (W.block (W.seq (W.region (WL.move rfl rfl (WL.neI rfl rfl rfl (WL.assign rfl rfl (WL.nil (WX.next (W.sub [(0, _), (2, _), (9, _), (10, _), (11, _), (20, _)] (.cons rfl (.cons rfl (.cons rfl (.cons rfl (.cons rfl (.cons rfl .nil)))))) (W.ite rfl (fun c0 => ?_) (fun c0 => ?_)))))))))))))))))))))
 ·refine W.seq (W.region (WL.move rfl rfl (WL.assign rfl rfl (WL.assign rfl rfl (WL.assign rfl rfl (WL.nil (WX.next (W.sub [(6, _), (7, _), (8, _)] (.cons rfl (.cons rfl (.cons rfl .nil))) (W.ret (WX.blockRet (WX.thenRet (WX.ret3 rfl rfl rfl rfl ?_))))))))))))
  unfold rdB
  rw [if_pos c0]
  exact ⟨none, 0, rfl, m0.nilOwn _ _⟩
 ·refine W.seq (W.region (WL.move rfl rfl (WL.move rfl rfl (WL.max rfl rfl rfl (WL.conv Tryz.underlying3 Tryz.underlying47 rfl (by first | exact wU64 (by omega) | exact mU64 _ | rfl) rfl ?_)))))
  refine WL.gtr rfl rfl rfl (WL.assign rfl rfl (WL.nil (WX.next (W.sub [(0, _), (9, _), (10, _), (24, _)] (.cons rfl (.cons rfl (.cons rfl (.cons rfl .nil)))) (W.ite rfl (fun c1 => ?_) (fun c1 => ?_))))))
  ·have hc0 : (rdU l at_).2.2 = 0 := by simpa using c0
   refine W.seq (W.region (WL.assign rfl rfl (WL.assign rfl rfl (WL.assign rfl rfl (WL.nil (WX.next (W.sub [(6, _), (7, _), (8, _)] (.cons rfl (.cons rfl (.cons rfl .nil))) (W.ret (WX.blockRet (WX.thenRet (WX.ret3 rfl rfl rfl rfl ?_)))))))))))
   unfold rdB
   rw [if_neg c0, if_pos c1]
   exact ⟨none, 0, rfl, m0.nilOwn _ _⟩
  ·have hc0 : (rdU l at_).2.2 = 0 := by simpa using c0
   obtain ⟨ht1, ht2, ht3, ht4⟩ := rdU_to hc0
   refine W.seq (W.region (WL.move rfl rfl (WL.move rfl rfl (WL.len Tryz.underlying84 rfl rfl (WL.move rfl rfl (WL.sub' rfl rfl (by first | exact wI64 (by omega) | rfl) rfl ?_))))))
   refine WL.conv Tryz.underlying3 Tryz.underlying47 rfl (by first | exact wU64 (by omega) | exact mU64 _ | rfl) rfl ?_
   refine WL.gtr rfl rfl rfl (WL.assign rfl rfl (WL.nil (WX.next (W.sub [(0, _), (9, _), (10, _), (30, _)] (.cons rfl (.cons rfl (.cons rfl (.cons rfl .nil)))) (W.ite rfl (fun c2 => ?_) (fun c2 => ?_))))))
   ·refine W.seq (W.region (WL.assign rfl rfl (WL.assign rfl rfl (WL.assign rfl rfl (WL.nil (WX.next (W.sub [(6, _), (7, _), (8, _)] (.cons rfl (.cons rfl (.cons rfl .nil))) (W.ret (WX.blockRet (WX.thenRet (WX.ret3 rfl rfl rfl rfl ?_)))))))))))
    unfold rdB
    rw [if_neg c0, if_neg c1, if_pos c2]
    exact ⟨none, 0, rfl, m0.nilOwn _ _⟩
   ·refine W.skip (WX.blockNormal (WX.next (W.seq (W.region (WL.move rfl rfl (WL.move rfl rfl (WL.conv Tryz.underlying47 Tryz.underlying3 rfl (by first | exact wI64 (by omega) | rfl) rfl ?_)))))))
    refine WL.add rfl rfl (by first | exact wI64 (by omega) | rfl) rfl ?_
    refine WL.assign rfl rfl (WL.nil (WX.next (W.sub [(0, _), (10, _), (12, _)] (.cons rfl (.cons rfl (.cons rfl .nil))) (W.seq (W.region (WL.buildS Tryz.elem5 (by assumption) rfl rfl rfl (by simp [Value.oneCell']) rfl rfl ?_))))))
    intro g w1 m1
    refine WL.move rfl rfl (WL.move rfl rfl (WL.move rfl rfl (WL.sliceLHB Tryz.underlying84 Tryz.sizeOf5 rfl rfl rfl (h.mem (m1.call (Mem.refl _) |>.nil)) rfl (by omega) (by omega) (by omega) rfl ?_)))
    intro A' L hL hLl hR
    refine WL.appendB (l := []) Tryz.elem5 rfl rfl m1 hR rfl rfl (by simp; omega) rfl ?_
    intro A2 cap2 w2 m2
    refine WL.move rfl rfl (WL.assign rfl rfl (WL.assign rfl rfl (WL.assign rfl rfl (WL.nil (WX.next (W.sub [(6, _), (7, _), (8, _)] (.cons rfl (.cons rfl (.cons rfl .nil))) (W.ret (WX.ret3 rfl rfl rfl rfl ?_))))))))
    have hL' : L = (l.drop (rdU l at_).2.1.toNat).take (rdU l at_).1 := by
     rw [hL]; congr 1; omega
    unfold rdB
    rw [if_neg c0, if_neg c1, if_neg c2]
    dsimp only
    rw [← hL']
    exact ⟨A2, cap2, rfl, m2⟩
theorem refBytes_ok (l : List UInt8) (A : Option Addr) (cap : Nat) (at_ most : Int) (w : World) (h : RdB w A cap l) (hl : l.length ≤ 140737488355328) (ha : -9223372036854775808 ≤ at_ ∧ at_ ≤ 9223372036854775807)
 (hmo : -9223372036854775808 ≤ most ∧ most ≤ 9223372036854775807) : Fn Tryz.prog 64 [.slice A l.length cap, .int .i64 at_, .int .i64 most] w fun v w' =>
 ∃ A' cap', v = .tuple #[.slice A' (rdB l at_ most).1.length cap', .int .i64 (rdB l at_ most).2.1, .int .i64 (rdB l at_ most).2.2] ∧ Mem w w' [Asr.own 5 1 A' (rdB l at_ most).1.length cap' (bs (rdB l at_ most).1)] := by
 have hlt := rdU_lt l at_
 have m0 := Mem.refl w
 refine Fn.enter Tryz.func64 rfl Tryz.ntmps64 rfl (W.sub [(0, _), (1, _), (2, _)] (.cons rfl (.cons rfl (.cons rfl .nil))) (W.seq (W.region (WL.assign rfl rfl (WL.assign rfl rfl (WL.assign rfl rfl (WL.nil (WX.next (W.sub [(0, _), (1, _), (2, _)] (.cons rfl (.cons rfl (.cons rfl .nil))) (W.seq (W.region (WL.move rfl rfl (WL.move rfl rfl (WL.call Tryz.call63 rfl (refUint_ok l A cap at_ w h hl ha) rfl ?_))))))))))))))
 rintro _ _ ⟨rfl, rfl⟩
 refine WL.move rfl rfl (WL.extract rfl rfl rfl (WL.extract rfl rfl rfl (WL.extract rfl rfl rfl (WL.assign rfl rfl (WL.assign rfl rfl (WL.assign rfl rfl (WL.nil (WX.next (W.sub [(0, _), (2, _), (9, _), (10, _), (11, _)] (.cons rfl (.cons rfl (.cons rfl (.cons rfl (.cons rfl .nil))))) (W.seq (W.seq (W.region (WL.move rfl rfl (WL.neI rfl rfl rfl (WL.nil (WX.next (W.sub [(0, _), (2, _), (9, _), (10, _), (11, _), (21, _)] (.cons rfl (.cons rfl (.cons rfl (.cons rfl (.cons rfl (.cons rfl .nil)))))) (W.ite rfl (fun c0 => ?_) (fun c0 => ?_)))))))))))))))))))
 ·refine W.seq (W.region (WL.move rfl rfl (WL.assign rfl rfl (WL.assign rfl rfl (WL.assign rfl rfl (WL.nil (WX.next (W.sub [(6, _), (7, _), (8, _)] (.cons rfl (.cons rfl (.cons rfl .nil))) (W.ret (WX.thenRet (WX.ret3 rfl rfl rfl rfl ?_)))))))))))
  unfold rdB
  rw [if_pos c0]
  exact ⟨none, 0, rfl, m0.nilOwn _ _⟩
 ·have hc0 : (rdU l at_).2.2 = 0 := by simpa using c0
  obtain ⟨ht1, ht2, ht3, ht4⟩ := rdU_to hc0
  refine W.skip (WX.next (W.joint (fun (mo : Int) => [(0, .slice A l.length cap), (2, .int .i64 mo), (9, .int .u64 ((rdU l at_).1 : Int)), (10, .int .i64 (rdU l at_).2.1)]) (fun mo w' => w = w' ∧ mo = max most 0) ?_ ?_))
  ·refine W.seq (W.region (WL.move rfl rfl (WL.lss rfl rfl rfl (WL.nil (WX.next (W.sub [(0, _), (2, _), (9, _), (10, _), (24, _)] (.cons rfl (.cons rfl (.cons rfl (.cons rfl (.cons rfl .nil))))) (W.ite rfl (fun c1 => ?_) (fun c1 => ?_))))))))
   ·refine W.region (WL.assign rfl rfl (WL.nil (WX.join (max most 0) envSub.sf ⟨rfl, rfl⟩)))
   ·refine W.skip (WX.join (max most 0) envSub.sf ⟨rfl, rfl⟩)
  rintro mo _ ⟨rfl, hmm⟩
  refine W.sub [(0, _), (2, _), (9, _), (10, _)] (.cons rfl (.cons rfl (.cons rfl (.cons rfl .nil)))) (W.seq (W.block (W.seq (W.region (WL.move rfl rfl (WL.move rfl rfl (WL.conv Tryz.underlying3 Tryz.underlying47 rfl (by first | exact wU64 (by omega) | exact mU64 _ | rfl) rfl ?_)))))))
  refine WL.gtr rfl rfl rfl (WL.assign rfl rfl (WL.nil (WX.next (W.sub [(0, _), (9, _), (10, _), (25, _)] (.cons rfl (.cons rfl (.cons rfl (.cons rfl .nil)))) (W.ite rfl (fun c2 => ?_) (fun c2 => ?_))))))
  ·refine W.seq (W.region (WL.assign rfl rfl (WL.assign rfl rfl (WL.assign rfl rfl (WL.nil (WX.next (W.sub [(6, _), (7, _), (8, _)] (.cons rfl (.cons rfl (.cons rfl .nil))) (W.ret (WX.blockRet (WX.thenRet (WX.ret3 rfl rfl rfl rfl ?_)))))))))))
   unfold rdB
   rw [if_neg c0, if_pos (by omega)]
   exact ⟨none, 0, rfl, m0.nilOwn _ _⟩
  ·refine W.seq (W.region (WL.move rfl rfl (WL.move rfl rfl (WL.len Tryz.underlying84 rfl rfl (WL.move rfl rfl (WL.sub' rfl rfl (by first | exact wI64 (by omega) | rfl) rfl ?_))))))
   refine WL.conv Tryz.underlying3 Tryz.underlying47 rfl (by first | exact wU64 (by omega) | exact mU64 _ | rfl) rfl ?_
   refine WL.gtr rfl rfl rfl (WL.assign rfl rfl (WL.nil (WX.next (W.sub [(0, _), (9, _), (10, _), (30, _)] (.cons rfl (.cons rfl (.cons rfl (.cons rfl .nil)))) (W.ite rfl (fun c3 => ?_) (fun c3 => ?_))))))
   ·refine W.seq (W.region (WL.assign rfl rfl (WL.assign rfl rfl (WL.assign rfl rfl (WL.nil (WX.next (W.sub [(6, _), (7, _), (8, _)] (.cons rfl (.cons rfl (.cons rfl .nil))) (W.ret (WX.blockRet (WX.thenRet (WX.ret3 rfl rfl rfl rfl ?_)))))))))))
    unfold rdB
    rw [if_neg c0, if_neg (by omega), if_pos c3]
    exact ⟨none, 0, rfl, m0.nilOwn _ _⟩
   ·refine W.skip (WX.blockNormal (WX.next (W.seq (W.region (WL.assign rfl rfl (WL.nil (WX.next (W.sub [(0, _), (9, _), (10, _), (12, _)] (.cons rfl (.cons rfl (.cons rfl (.cons rfl .nil)))) (W.seq (W.region (WL.move rfl rfl (WL.move rfl rfl (WL.move rfl rfl (WL.move rfl rfl (WL.move rfl rfl (WL.conv Tryz.underlying47 Tryz.underlying3 rfl (by first | exact wI64 (by omega) | rfl) rfl ?_))))))))))))))))
    refine WL.add rfl rfl (by first | exact wI64 (by omega) | rfl) rfl ?_
    refine WL.sliceLHB Tryz.underlying84 Tryz.sizeOf5 rfl rfl rfl h rfl (by omega) (by omega) (by omega) rfl ?_
    intro A' L hL hLl hR
    refine WL.appendB (l := []) Tryz.elem5 rfl rfl (m0.nilOwn _ _) hR rfl rfl (by simp; omega) rfl ?_
    intro A2 cap2 w2 m2
    refine WL.assign rfl rfl (WL.nil (WX.next (W.sub [(9, _), (10, _), (12, _)] (.cons rfl (.cons rfl (.cons rfl .nil))) (W.seq (W.region (WL.move rfl rfl (WL.move rfl rfl (WL.move rfl rfl (WL.conv Tryz.underlying47 Tryz.underlying3 rfl (by first | exact wI64 (by omega) | rfl) rfl ?_)))))))))
    refine WL.add rfl rfl (by first | exact wI64 (by omega) | rfl) rfl ?_
    refine WL.assign rfl rfl (WL.assign rfl rfl (WL.assign rfl rfl (WL.nil (WX.next (W.sub [(6, _), (7, _), (8, _)] (.cons rfl (.cons rfl (.cons rfl .nil))) (W.ret (WX.ret3 rfl rfl rfl rfl ?_)))))))
    have hL' : L = (l.drop (rdU l at_).2.1.toNat).take (rdU l at_).1 := by
     rw [hL]; congr 1; omega
    unfold rdB
    rw [if_neg c0, if_neg (by omega), if_neg c3]
    dsimp only
    rw [← hL']
    exact ⟨A2, cap2, rfl, m2⟩
theorem put_len {n : Nat} (h : n < 18446744073709551616) : (put n).length ≤ 10 := by
 rw [put_length h]
 exact sz_le h
theorem PutBytes_ok (l : List UInt8) (A : Option Addr) (cap : Nat) (w : World) (h : RdB w A cap l) (hl : l.length ≤ 140737488351232) :
 Fn Tryz.prog 106 [.slice A l.length cap] w fun v w' => ∃ A' cap', v = .slice A' (put l.length ++ l).length cap' ∧ Mem w w' [Asr.own 5 1 A' (put l.length ++ l).length cap' (bs (put l.length ++ l))] := by
 have hp := put_len (n := l.length) (by omega)
 refine Fn.enter Tryz.func106 rfl Tryz.ntmps106 rfl (W.sub [(0, _)] (.cons rfl .nil) (W.seq (W.region (WL.assign rfl rfl (WL.nil (WX.next (W.sub [(0, _)] (.cons rfl .nil) (W.seq (W.region (WL.move rfl rfl (WL.len Tryz.underlying84 rfl rfl (WL.conv Tryz.underlying3 Tryz.underlying47 rfl (by first | exact wU64 (by omega) | exact mU64 _ | rfl) rfl ?_))))))))))))
 refine WL.call Tryz.call68 rfl (PutUint_ok l.length (by omega) w) rfl ?_
 rintro _ w1 ⟨A1, cap1, rfl, m1⟩
 refine WL.move rfl rfl (WL.appendB Tryz.elem5 rfl rfl m1 (h.mem m1) rfl rfl (by omega) rfl ?_)
 intro A1_5 cap1_5 w1_5 m1_5
 refine WL.assign rfl rfl (WL.nil (WX.next (W.sub [(2, _)] (.cons rfl .nil) (W.ret (WX.ret1 rfl rfl ?_)))))
 exact ⟨_, _, rfl, m1_5⟩
theorem refPutBytes_ok (l : List UInt8) (A : Option Addr) (cap : Nat) (w : World) (h : RdB w A cap l) (hl : l.length ≤ 140737488351232) :
 Fn Tryz.prog 103 [.slice A l.length cap] w fun v w' => ∃ A' cap', v = .slice A' (put l.length ++ l).length cap' ∧ Mem w w' [Asr.own 5 1 A' (put l.length ++ l).length cap' (bs (put l.length ++ l))] := by
 have hp := put_len (n := l.length) (by omega)
 refine Fn.enter Tryz.func103 rfl Tryz.ntmps103 rfl (W.sub [(0, _)] (.cons rfl .nil) (W.seq (W.region (WL.assign rfl rfl (WL.nil (WX.next (W.sub [(0, _)] (.cons rfl .nil) (W.seq (W.region (WL.move rfl rfl (WL.len Tryz.underlying84 rfl rfl (WL.conv Tryz.underlying3 Tryz.underlying47 rfl (by first | exact wU64 (by omega) | exact mU64 _ | rfl) rfl ?_))))))))))))
 refine WL.call Tryz.call102 rfl (refPutUint_ok l.length (by omega) w) rfl ?_
 rintro _ w1 ⟨A1, cap1, rfl, m1⟩
 refine WL.move rfl rfl (WL.appendB Tryz.elem5 rfl rfl m1 (h.mem m1) rfl rfl (by omega) rfl ?_)
 intro A1_5 cap1_5 w1_5 m1_5
 refine WL.assign rfl rfl (WL.nil (WX.next (W.sub [(2, _)] (.cons rfl .nil) (W.ret (WX.ret1 rfl rfl ?_)))))
 exact ⟨_, _, rfl, m1_5⟩
end Go.Proofs.YtlminileigfkcaaGreat
namespace Go.Proofs.YtlminileigfkcaaGreat
open Go Go.RowKit
section
variable {P : Program} {n : Nat} {ρ : List (Nat × Value)} {w0 w : World} {rest : List Oper} {L : List Asr} {Y : Sq P n}
variable {d : Nat} {ty : TypeId} {pos : String} {aft : Array Edge} {x : Operand} {t e : TypeId}
end
end Go.Proofs.YtlminileigfkcaaGreat
namespace Go.Proofs.YtlminileigfkcaaGreat
open Go Go.RowKit
theorem Copy_ok {A : Option Addr} {cap : Nat} {l : List UInt8} {w : World} (h : RdB w A cap l) (hl : l.length ≤ 140737488351232) :
 Fn Tryz.prog 97 [.slice A l.length cap] w fun v w' => ∃ A' cap', v = .slice A' l.length cap' ∧ Mem w w' [Asr.own 5 1 A' l.length cap' (bs l)] := by
 have m0 := (Mem.refl w).nilOwn 5 1
 refine Fn.enter Tryz.func97 rfl Tryz.ntmps97 rfl (W.sub [(0, _)] (.cons rfl .nil) (W.seq (W.region (WL.assign rfl rfl (WL.nil (WX.next (W.sub [(0, _)] (.cons rfl .nil) (W.seq (W.region (WL.assign rfl rfl (WL.nil (WX.next (W.sub [(0, _), (3, _)] (.cons rfl (.cons rfl .nil)) (W.seq (W.region (WL.move rfl rfl (WL.move rfl rfl ?_)))))))))))))))))
 refine WL.appendB (l := []) Tryz.elem5 rfl rfl m0 h rfl rfl (by simp; omega) rfl ?_
 intro A2 cap2 w2 m2
 refine WL.assign rfl rfl (WL.nil (WX.next (W.sub [(2, _)] (.cons rfl .nil) (W.ret (WX.ret1 rfl rfl ?_)))))
 exact ⟨A2, cap2, rfl, m2⟩
end Go.Proofs.YtlminileigfkcaaGreat
namespace Go.Proofs.YtlminileigfkcaaGreat
open Go Go.RowKit
end Go.Proofs.YtlminileigfkcaaGreat
namespace Go.Proofs.YtlminileigfkcaaGreat
open Go Go.RowKit
end Go.Proofs.YtlminileigfkcaaGreat
namespace Go.Proofs.YtlminileigfkcaaGreat
open Go Go.RowKit
section
variable {P : Program} {n : Nat} {ρ : List (Nat × Value)} {w0 w : World} {rest : List Oper} {L L' : List Asr} {Y : Sq P n}
variable {d : Nat} {ty : TypeId} {pos : String} {aft : Array Edge} {x : Operand} {t e : TypeId}
end
end Go.Proofs.YtlminileigfkcaaGreat
namespace Go.Proofs.YtlminileigfkcaaGreat
open Go Go.RowKit Bin
/-- A reader's state: bytes, place, error. -/
structure Rs where
 b : List UInt8
 at_ : Int
 err : Int
/-- What it is asked stays within. -/
structure Rs.ok (r : Rs) : Prop where
 len : r.b.length ≤ 140737488351232
 lo : 0 ≤ r.at_
 hi : r.at_ ≤ r.b.length
def uintV (r : Rs) : Nat := if r.err = 0 ∧ (rdU r.b r.at_).2.2 = 0 then (rdU r.b r.at_).1 else 0
def uintS (r : Rs) : Rs := if r.err ≠ 0 then r else if (rdU r.b r.at_).2.2 ≠ 0 then { r with err := (rdU r.b r.at_).2.2 } else { r with at_ := (rdU r.b r.at_).2.1 }
def textV (r : Rs) (most : Int) : List UInt8 := if r.err = 0 ∧ (rdB r.b r.at_ most).2.2 = 0 then (rdB r.b r.at_ most).1 else []
def textS (r : Rs) (most : Int) : Rs := if r.err ≠ 0 then r else if (rdB r.b r.at_ most).2.2 ≠ 0 then { r with err := (rdB r.b r.at_ most).2.2 } else { r with at_ := (rdB r.b r.at_ most).2.1 }
def leftV (r : Rs) : Int := if r.err ≠ 0 then 0 else (r.b.length : Int) - r.at_
theorem rdU_range (b : List UInt8) (at_ : Int) (h : (rdU b at_).2.2 = 0) : 0 ≤ (rdU b at_).2.1 ∧ (rdU b at_).2.1 ≤ b.length := by
 rcases rdU_cases b at_ with ⟨n, k, e, h0, hg⟩ | ⟨e', e⟩
 ·have h1 := (getF_lt 10 0 _ n k rfl hg).1
  rw [List.length_drop] at h1
  have h2 : ¬ (at_ < 0 ∨ (b.length : Int) < at_) := by
   intro hc
   rw [rdU_out hc] at e
   simp at e
  rw [e]
  exact ⟨by dsimp only; omega, by dsimp only; omega⟩
 ·rw [e] at h
  dsimp only at h
  omega
theorem uintS_ok {r : Rs} (h : r.ok) : (uintS r).ok := by
 unfold uintS
 split
 ·exact h
 ·split
  ·exact ⟨h.len, h.lo, h.hi⟩
  ·rename_i h1
   have := rdU_range r.b r.at_ (by simpa using h1)
   exact ⟨h.len, this.1, this.2⟩
theorem uintS_b (r : Rs) : (uintS r).b = r.b := by
 unfold uintS
 split
 ·rfl
 ·split <;> rfl
theorem rdB_range (b : List UInt8) (at_ most : Int) (h : (rdB b at_ most).2.2 = 0) : 0 ≤ (rdB b at_ most).2.1 ∧ (rdB b at_ most).2.1 ≤ b.length ∧ (rdB b at_ most).1.length ≤ b.length := by
 unfold rdB at h ⊢
 split at h
 ·rename_i h0; exact absurd h h0
 ·split at h
  ·simp at h
  ·split at h
   ·simp at h
   ·rename_i h0 h1 h2
    have := rdU_to (b := b) (at_ := at_) (by simpa using h0)
    rw [if_neg h0, if_neg h1, if_neg h2]
    refine ⟨by dsimp only; omega, by dsimp only; omega, ?_⟩
    rw [List.length_take, List.length_drop]
    omega
theorem textS_ok {r : Rs} (h : r.ok) (most : Int) : (textS r most).ok := by
 unfold textS
 split
 ·exact h
 ·split
  ·exact ⟨h.len, h.lo, h.hi⟩
  ·rename_i h1
   have := rdB_range r.b r.at_ most (by simpa using h1)
   exact ⟨h.len, this.1, this.2.1⟩
theorem textS_b (r : Rs) (most : Int) : (textS r most).b = r.b := by
 unfold textS
 split
 ·rfl
 ·split <;> rfl
theorem textV_le (r : Rs) (most : Int) : (textV r most).length ≤ r.b.length := by
 unfold textV
 split
 ·rename_i h
  exact (rdB_range _ _ _ h.2).2.2
 ·exact Nat.zero_le _
theorem New_ok (b : List UInt8) (A : Option Addr) (cap : Nat) (w0 : World) (h : RdB w0 A cap b) (hl : b.length ≤ 140737488351232) : Fn Tryz.prog 54 [.slice A b.length cap] w0 fun v w' =>
 ∃ g A' cap', v = .pointer (some ⟨g, 0, none⟩) ∧ Mem w0 w' [Asr.row g 179 [.slice A' b.length cap', .int .i64 0, .int .i64 0], Asr.own 5 1 A' b.length cap' (bs b)] := by
 have M := Mem.refl w0
 refine Fn.enter Tryz.func54 rfl Tryz.ntmps54 rfl (W.sub [(0, _)] (.cons rfl .nil) (W.seq (W.region (WL.assign rfl rfl (WL.nil (WX.next (W.sub [(0, _)] (.cons rfl .nil) (W.seq (W.region (WL.buildB (es := []) Tryz.elem5 M rfl rfl (by exact BytesOf.nil) (by rfl) rfl rfl ?_))))))))))
 intro g1_0 w M
 refine WL.move rfl rfl ?_
 refine WL.appendBN Tryz.elem5 rfl rfl M Del.a (by first | first | with_reducible assumption | with_reducible exact RdB.mem (by with_reducible assumption) M | exact M.rdB Has.a | exact RdH.at (by assumption) (M.sel Sel.a) | exact M.rdLit' Has.a | exact M.rdLent Has.a | exact RdB.nil _ _ | exact RdB.sub (by first | with_reducible assumption | with_reducible exact RdB.mem (by with_reducible assumption) M | exact M.rdB Has.a | exact RdH.at (by assumption) (M.sel Sel.a) | exact M.rdLit' Has.a | exact M.rdLent Has.a | exact RdB.nil _ _) (by omega) (by omega) | exact RdB.pre' (by first | with_reducible assumption | with_reducible exact RdB.mem (by with_reducible assumption) M | exact M.rdB Has.a | exact RdH.at (by assumption) (M.sel Sel.a) | exact M.rdLit' Has.a | exact M.rdLent Has.a | exact RdB.nil _ _) (by omega) | exact RdB.suf (by first | with_reducible assumption | with_reducible exact RdB.mem (by with_reducible assumption) M | exact M.rdB Has.a | exact RdH.at (by assumption) (M.sel Sel.a) | exact M.rdLit' Has.a | exact M.rdLent Has.a | exact RdB.nil _ _) (by omega)) rfl rfl (by first | omega | (simp; done) | (simp; omega)) rfl ?_
 intro A1_2 cap1_2 w M
 refine WL.buildP (places := #[(0, 1), (1, 1), (2, 1)]) Tryz.underlying179 Tryz.zeroValue179 (fun _ => by simp [Tryz.sizeOf84, Tryz.sizeOf3, Tryz.sizeOf29]) rfl (by repeat (first | exact Puts.nil | exact SetAt.zero | apply SetAt.succ | apply Puts.cons rfl rfl)) rfl ?_
 refine WL.box rfl M rfl ?_
 intro g1_4 w M
 try simp only [Value.cells] at M
 try simp only [List.toList_toArray] at M
 refine WL.assign rfl rfl (WL.nil (WX.next (W.sub [(2, _)] (.cons rfl .nil) (W.ret (WX.ret1 rfl rfl ?_)))))
 exact ⟨g1_4, A1_2, cap1_2, rfl, M.sel Sel.a⟩
section
variable (g : Nat) (A : Option Addr) (cap : Nat) (r : Rs) (hr : r.ok) (w0 w : World) (L L' : List Asr)
include hr
set_option maxRecDepth 10000 in
theorem rdUint_ok (M : Mem w0 w L) (hd : Del (Asr.row g 179 [.slice A r.b.length cap, .int .i64 r.at_, .int .i64 r.err]) L L') (hb : RdH w0 L' A cap r.b) :
 Fn Tryz.prog 55 [.pointer (some ⟨g, 0, none⟩)] w fun v w' => v = .int .u64 (uintV r : Int) ∧
  Mem w0 w' (Asr.row g 179 [.slice A r.b.length cap, .int .i64 (uintS r).at_, .int .i64 (uintS r).err] :: L') := by
 replace M := M.del hd
 have hlo := hr.lo
 have hhi := hr.hi
 have hln := hr.len
 refine Fn.enter Tryz.func55 rfl Tryz.ntmps55 rfl (W.sub [(0, _)] (.cons rfl .nil) (W.seq (W.region (WL.assign rfl rfl (WL.nil (WX.next (W.sub [(0, _)] (.cons rfl .nil) (W.seq (W.seq (W.region (WL.move rfl rfl (WL.eqNilF Tryz.underlying136 rfl rfl rfl (WL.move rfl rfl (WL.on rfl rfl (WL.move rfl rfl (WL.on rfl rfl (WL.nilCheck rfl rfl (WL.on rfl rfl (WL.fieldR (off := 2) Tryz.underlying179 rfl rfl Tryz.sizeOf29 rfl rfl rfl ?_)))))))))))))))))))
 refine WL.on rfl rfl (WL.loadR Tryz.isAgg29 rfl M Has.a rfl rfl (WL.on rfl rfl (WL.neI rfl rfl rfl (WL.pickF rfl rfl rfl (WL.nil (WX.next (W.sub [(0, _), (14, _)] (.cons rfl (.cons rfl .nil)) (W.ite rfl (fun c1 => ?_) (fun c1 => ?_)))))))))
 ·refine W.seq (W.region (WL.assign rfl rfl (WL.nil (WX.next (W.sub [(2, _)] (.cons rfl .nil) (W.ret (WX.thenRet (WX.ret1 rfl rfl ?_))))))))
  exact ⟨by unfold uintV; rw [if_neg (fun h => by first | exact c1 h.1 | omega)]; rfl, by unfold uintS; rw [if_pos (by first | exact c1 | omega)]; exact M⟩
 ·have h0 : r.err = 0 := by first | exact Classical.byContradiction fun h => c1 h | omega
  refine W.skip (WX.next (W.seq (W.drawM (_) (by kernel_rfl) (fun j => [3, 7].contains j) M Sel.refl ?_)))
  clear M; intro M
  apply DG.pure_ [0, 1, 2, 4, 5, 6] 10 rfl (by kernel_rfl) (by kernel_rfl)
  ·intro w
   refine WL.move rfl rfl (WL.nilCheck rfl rfl (WL.fieldR (off := 0) Tryz.underlying179 rfl rfl Tryz.sizeOf84 rfl rfl rfl ?_))
   refine WL.move rfl rfl (WL.nilCheck rfl rfl (WL.fieldR (off := 1) Tryz.underlying179 rfl rfl Tryz.sizeOf3 rfl rfl rfl ?_))
   exact Chain.end_ rfl
  apply DG.take [3, 7] 8 rfl (by kernel_rfl) (by kernel_rfl) (M.sel Sel.a)
  ·intro w M
   refine WL.loadR Tryz.isAgg84 rfl M Has.a rfl rfl (WL.loadR Tryz.isAgg3 rfl M Has.a rfl rfl ?_)
   exact Chain.end_ rfl
  refine DG.step 8 7 rfl (by kernel_rfl) ?_
  refine WL.call Tryz.call86 rfl (Uint_ok _ _ _ _ _ (by first | first | with_reducible assumption | with_reducible exact RdB.mem (by with_reducible assumption) M | exact M.rdB Has.a | exact RdH.at (by assumption) (M.sel Sel.a) | exact M.rdLit' Has.a | exact M.rdLent Has.a | exact RdB.nil _ _ | exact RdB.sub (by first | with_reducible assumption | with_reducible exact RdB.mem (by with_reducible assumption) M | exact M.rdB Has.a | exact RdH.at (by assumption) (M.sel Sel.a) | exact M.rdLit' Has.a | exact M.rdLent Has.a | exact RdB.nil _ _) (by omega) (by omega) | exact RdB.pre' (by first | with_reducible assumption | with_reducible exact RdB.mem (by with_reducible assumption) M | exact M.rdB Has.a | exact RdH.at (by assumption) (M.sel Sel.a) | exact M.rdLit' Has.a | exact M.rdLent Has.a | exact RdB.nil _ _) (by omega) | exact RdB.suf (by first | with_reducible assumption | with_reducible exact RdB.mem (by with_reducible assumption) M | exact M.rdB Has.a | exact RdH.at (by assumption) (M.sel Sel.a) | exact M.rdLit' Has.a | exact M.rdLent Has.a | exact RdB.nil _ _) (by omega)) (by omega) (by omega)) rfl ?_
  rintro _ _ ⟨rfl, rfl⟩
  refine DG.go (G := fun j => [3, 7].contains j) (i := 8) (f' := 7) (done := [0, 1, 2, 4, 5, 6, 3, 7]) (fun h => by cases h) ?_
  apply DG.pure_ [9, 10, 11, 12, 13, 14, 15] 0 rfl (by kernel_rfl) (by kernel_rfl)
  ·intro w
   refine WL.move rfl rfl (WL.extractL rfl rfl rfl (WL.extractL rfl rfl rfl (WL.extractL rfl rfl rfl (WL.assign rfl rfl (WL.assign rfl rfl (WL.assign rfl rfl ?_))))))
   exact Chain.end_ rfl
  refine DG.end_ (by kernel_rfl) ?_
  refine WX.next (W.sub [(0, _), (3, _), (4, _), (5, _)] (.cons rfl (.cons rfl (.cons rfl (.cons rfl .nil)))) (W.seq (W.seq (W.region (WL.move rfl rfl (WL.neI rfl rfl rfl (WL.nil (WX.next (W.sub [(0, _), (3, _), (4, _), (5, _), (29, _)] (.cons rfl (.cons rfl (.cons rfl (.cons rfl (.cons rfl .nil))))) (W.ite rfl (fun c2 => ?_) (fun c2 => ?_)))))))))))
  ·refine W.seq (W.region (WL.move rfl rfl (WL.move rfl rfl (WL.nilCheck rfl rfl (WL.fieldR (off := 2) Tryz.underlying179 rfl rfl Tryz.sizeOf29 rfl rfl rfl ?_)))))
   refine WL.storeR Tryz.sizeOf29 rfl rfl rfl M Has.a (by repeat (first | exact SetAt.zero | apply SetAt.succ)) Upd.a ?_
   intro w M
   refine WL.nil (WX.next (W.sub [] .nil (W.seq (W.region (WL.assign rfl rfl (WL.nil (WX.next (W.sub [(2, _)] (.cons rfl .nil) (W.ret (WX.thenRet (WX.ret1 rfl rfl ?_)))))))))))
   exact ⟨by unfold uintV; rw [if_neg (fun h => c2 h.2)]; rfl, by unfold uintS; rw [if_neg (by omega), if_pos c2]; exact M⟩
  ·refine W.skip (WX.next (W.seq (W.region (WL.move rfl rfl (WL.move rfl rfl (WL.nilCheck rfl rfl (WL.fieldR (off := 1) Tryz.underlying179 rfl rfl Tryz.sizeOf3 rfl rfl rfl ?_)))))))
   refine WL.storeR Tryz.sizeOf3 rfl rfl rfl M Has.a (by repeat (first | exact SetAt.zero | apply SetAt.succ)) Upd.a ?_
   intro w M
   refine WL.nil (WX.next (W.sub [(3, _)] (.cons rfl .nil) (W.seq (W.region (WL.move rfl rfl (WL.assign rfl rfl (WL.nil (WX.next (W.sub [(2, _)] (.cons rfl .nil) (W.ret (WX.ret1 rfl rfl ?_)))))))))))
   exact ⟨by unfold uintV; rw [if_pos ⟨h0, by omega⟩], by unfold uintS; rw [if_neg (by omega), if_neg (by omega)]; exact M⟩
set_option maxRecDepth 10000 in
theorem rdBytes_ok (most : Int) (hmo : -9223372036854775808 ≤ most ∧ most ≤ 9223372036854775807) (M : Mem w0 w L) (hd : Del (Asr.row g 179 [.slice A r.b.length cap, .int .i64 r.at_, .int .i64 r.err]) L L') (hb : RdH w0 L' A cap r.b) :
 Fn Tryz.prog 57 [.pointer (some ⟨g, 0, none⟩), .int .i64 most] w fun v w' => ∃ A' cap', v = .slice A' (textV r most).length cap' ∧
  Mem w0 w' (Asr.own 5 1 A' (textV r most).length cap' (bs (textV r most)) :: Asr.row g 179 [.slice A r.b.length cap, .int .i64 (textS r most).at_, .int .i64 (textS r most).err] :: L') := by
 replace M := M.del hd
 have hlo := hr.lo
 have hhi := hr.hi
 have hln := hr.len
 refine Fn.enter Tryz.func57 rfl Tryz.ntmps57 rfl (W.sub [(0, _), (1, _)] (.cons rfl (.cons rfl .nil)) (W.seq (W.region (WL.assign rfl rfl (WL.nil (WX.next (W.sub [(0, _), (1, _)] (.cons rfl (.cons rfl .nil)) (W.seq (W.seq (W.region (WL.move rfl rfl (WL.eqNilF Tryz.underlying136 rfl rfl rfl (WL.move rfl rfl (WL.on rfl rfl (WL.move rfl rfl (WL.on rfl rfl (WL.nilCheck rfl rfl (WL.on rfl rfl (WL.fieldR (off := 2) Tryz.underlying179 rfl rfl Tryz.sizeOf29 rfl rfl rfl ?_)))))))))))))))))))
 refine WL.on rfl rfl (WL.loadR Tryz.isAgg29 rfl M Has.a rfl rfl (WL.on rfl rfl (WL.neI rfl rfl rfl (WL.pickF rfl rfl rfl (WL.nil (WX.next (W.sub [(0, _), (1, _), (16, _)] (.cons rfl (.cons rfl (.cons rfl .nil))) (W.ite rfl (fun c1 => ?_) (fun c1 => ?_)))))))))
 ·refine W.seq (W.region (WL.assign rfl rfl (WL.nil (WX.next (W.sub [(4, _)] (.cons rfl .nil) (W.ret (WX.thenRet (WX.ret1 rfl rfl ?_))))))))
  have e : textV r most = [] := by unfold textV; rw [if_neg (fun h => by first | exact c1 h.1 | omega)]
  have e2 : textS r most = r := by unfold textS; rw [if_pos (by first | exact c1 | omega)]
  rw [e, e2]
  exact ⟨none, 0, rfl, M.nilOwn _ _⟩
 ·have h0 : r.err = 0 := by first | exact Classical.byContradiction fun h => c1 h | omega
  refine W.skip (WX.next (W.seq (W.drawM (_) (by kernel_rfl) (fun j => [3, 7].contains j) M Sel.refl ?_)))
  clear M; intro M
  apply DG.pure_ [0, 1, 2, 4, 5, 6, 8] 10 rfl (by kernel_rfl) (by kernel_rfl)
  ·intro w
   refine WL.move rfl rfl (WL.nilCheck rfl rfl (WL.fieldR (off := 0) Tryz.underlying179 rfl rfl Tryz.sizeOf84 rfl rfl rfl ?_))
   refine WL.move rfl rfl (WL.nilCheck rfl rfl (WL.fieldR (off := 1) Tryz.underlying179 rfl rfl Tryz.sizeOf3 rfl rfl rfl ?_))
   refine WL.move rfl rfl ?_
   exact Chain.end_ rfl
  apply DG.take [3, 7] 8 rfl (by kernel_rfl) (by kernel_rfl) (M.sel Sel.a)
  ·intro w M
   refine WL.loadR Tryz.isAgg84 rfl M Has.a rfl rfl (WL.loadR Tryz.isAgg3 rfl M Has.a rfl rfl ?_)
   exact Chain.end_ rfl
  refine DG.step 9 7 rfl (by kernel_rfl) ?_
  refine WL.call Tryz.call91 rfl (Bytes_ok _ _ _ _ _ _ (by first | first | with_reducible assumption | with_reducible exact RdB.mem (by with_reducible assumption) M | exact M.rdB Has.a | exact RdH.at (by assumption) (M.sel Sel.a) | exact M.rdLit' Has.a | exact M.rdLent Has.a | exact RdB.nil _ _ | exact RdB.sub (by first | with_reducible assumption | with_reducible exact RdB.mem (by with_reducible assumption) M | exact M.rdB Has.a | exact RdH.at (by assumption) (M.sel Sel.a) | exact M.rdLit' Has.a | exact M.rdLent Has.a | exact RdB.nil _ _) (by omega) (by omega) | exact RdB.pre' (by first | with_reducible assumption | with_reducible exact RdB.mem (by with_reducible assumption) M | exact M.rdB Has.a | exact RdH.at (by assumption) (M.sel Sel.a) | exact M.rdLit' Has.a | exact M.rdLent Has.a | exact RdB.nil _ _) (by omega) | exact RdB.suf (by first | with_reducible assumption | with_reducible exact RdB.mem (by with_reducible assumption) M | exact M.rdB Has.a | exact RdH.at (by assumption) (M.sel Sel.a) | exact M.rdLit' Has.a | exact M.rdLent Has.a | exact RdB.nil _ _) (by omega)) (by omega) (by omega) hmo) rfl ?_
  rintro _ w ⟨A', k', rfl, m⟩
  replace M := M.call1 m; clear m
  refine DG.go (G := fun j => [3, 7].contains j) (i := 9) (f' := 7) (done := [0, 1, 2, 4, 5, 6, 8, 3, 7]) (fun h => by cases h) ?_
  apply DG.pure_ [10, 11, 12, 13, 14, 15, 16] 0 rfl (by kernel_rfl) (by kernel_rfl)
  ·intro w
   refine WL.move rfl rfl (WL.extractL rfl rfl rfl (WL.extractL rfl rfl rfl (WL.extractL rfl rfl rfl (WL.assign rfl rfl (WL.assign rfl rfl (WL.assign rfl rfl ?_))))))
   exact Chain.end_ rfl
  refine DG.end_ (by kernel_rfl) ?_
  refine WX.next (W.sub [(0, _), (5, _), (6, _), (7, _)] (.cons rfl (.cons rfl (.cons rfl (.cons rfl .nil)))) (W.seq (W.seq (W.region (WL.move rfl rfl (WL.neI rfl rfl rfl (WL.nil (WX.next (W.sub [(0, _), (5, _), (6, _), (7, _), (32, _)] (.cons rfl (.cons rfl (.cons rfl (.cons rfl (.cons rfl .nil))))) (W.ite rfl (fun c2 => ?_) (fun c2 => ?_)))))))))))
  ·refine W.seq (W.region (WL.move rfl rfl (WL.move rfl rfl (WL.nilCheck rfl rfl (WL.fieldR (off := 2) Tryz.underlying179 rfl rfl Tryz.sizeOf29 rfl rfl rfl ?_)))))
   refine WL.storeR Tryz.sizeOf29 rfl rfl rfl M Has.a (by repeat (first | exact SetAt.zero | apply SetAt.succ)) Upd.a ?_
   intro w M
   refine WL.nil (WX.next (W.sub [] .nil (W.seq (W.region (WL.assign rfl rfl (WL.nil (WX.next (W.sub [(4, _)] (.cons rfl .nil) (W.ret (WX.thenRet (WX.ret1 rfl rfl ?_)))))))))))
   have e : textV r most = [] := by unfold textV; rw [if_neg (fun h => c2 h.2)]
   rw [e]
   refine ⟨none, 0, rfl, ?_⟩
   unfold textS
   rw [if_neg (by omega), if_pos c2]
   exact Mem.nilOwn (M.sel Sel.a) _ _
  ·refine W.skip (WX.next (W.seq (W.region (WL.move rfl rfl (WL.move rfl rfl (WL.nilCheck rfl rfl (WL.fieldR (off := 1) Tryz.underlying179 rfl rfl Tryz.sizeOf3 rfl rfl rfl ?_)))))))
   refine WL.storeR Tryz.sizeOf3 rfl rfl rfl M Has.a (by repeat (first | exact SetAt.zero | apply SetAt.succ)) Upd.a ?_
   intro w M
   refine WL.nil (WX.next (W.sub [(5, _)] (.cons rfl .nil) (W.seq (W.region (WL.move rfl rfl (WL.assign rfl rfl (WL.nil (WX.next (W.sub [(4, _)] (.cons rfl .nil) (W.ret (WX.ret1 rfl rfl ?_)))))))))))
   have e : textV r most = (rdB r.b r.at_ most).1 := by unfold textV; rw [if_pos ⟨h0, by omega⟩]
   rw [e]
   refine ⟨A', k', rfl, ?_⟩
   unfold textS
   rw [if_neg (by omega), if_neg (by omega)]
   exact M.sel Sel.a
theorem rdLeft_ok (M : Mem w0 w L) (hd : Del (Asr.row g 179 [.slice A r.b.length cap, .int .i64 r.at_, .int .i64 r.err]) L L') :
 Fn Tryz.prog 58 [.pointer (some ⟨g, 0, none⟩)] w fun v w' => v = .int .i64 (leftV r) ∧ Mem w0 w' (Asr.row g 179 [.slice A r.b.length cap, .int .i64 r.at_, .int .i64 r.err] :: L') := by
 replace M := M.del hd
 have hlo := hr.lo
 have hhi := hr.hi
 have hln := hr.len
 refine Fn.enter Tryz.func58 rfl Tryz.ntmps58 rfl (W.sub [(0, _)] (.cons rfl .nil) (W.seq (W.region (WL.assign rfl rfl (WL.nil (WX.next (W.sub [(0, _)] (.cons rfl .nil) (W.seq (W.seq (W.region (WL.move rfl rfl (WL.eqNilF Tryz.underlying136 rfl rfl rfl (WL.move rfl rfl (WL.on rfl rfl (WL.move rfl rfl (WL.on rfl rfl (WL.nilCheck rfl rfl (WL.on rfl rfl (WL.fieldR (off := 2) Tryz.underlying179 rfl rfl Tryz.sizeOf29 rfl rfl rfl ?_)))))))))))))))))))
 refine WL.on rfl rfl (WL.loadR Tryz.isAgg29 rfl M Has.a rfl rfl (WL.on rfl rfl (WL.neI rfl rfl rfl (WL.pickF rfl rfl rfl (WL.nil (WX.next (W.sub [(0, _), (11, _)] (.cons rfl (.cons rfl .nil)) (W.ite rfl (fun c1 => ?_) (fun c1 => ?_)))))))))
 ·refine W.seq (W.region (WL.assign rfl rfl (WL.nil (WX.next (W.sub [(2, _)] (.cons rfl .nil) (W.ret (WX.thenRet (WX.ret1 rfl rfl ?_))))))))
  exact ⟨by unfold leftV; rw [if_pos (by first | exact c1 | omega)], M⟩
 ·refine W.skip (WX.next (W.seq (W.drawM (_) (by kernel_rfl) (fun j => [3, 4, 8].contains j) M Sel.refl ?_)))
  clear M; intro M
  apply DG.pure_ [0, 1, 2, 5, 6, 7] 5 rfl (by kernel_rfl) (by kernel_rfl)
  ·intro w
   refine WL.move rfl rfl (WL.nilCheck rfl rfl (WL.fieldR (off := 0) Tryz.underlying179 rfl rfl Tryz.sizeOf84 rfl rfl rfl ?_))
   refine WL.move rfl rfl (WL.nilCheck rfl rfl (WL.fieldR (off := 1) Tryz.underlying179 rfl rfl Tryz.sizeOf3 rfl rfl rfl ?_))
   exact Chain.end_ rfl
  apply DG.take [3, 4, 8, 9, 10] 0 rfl (by kernel_rfl) (by kernel_rfl) (M.sel Sel.a)
  ·intro w M
   refine WL.loadR Tryz.isAgg84 rfl M Has.a rfl rfl (WL.len Tryz.underlying84 rfl rfl (WL.loadR Tryz.isAgg3 rfl M Has.a rfl rfl (WL.sub' rfl rfl (by first | exact wI64 (by omega) | rfl) rfl ?_)))
   refine WL.assign rfl rfl ?_
   exact Chain.end_ rfl
  refine DG.end_ (by kernel_rfl) ?_
  refine WX.next (W.sub [(2, _)] (.cons rfl .nil) (W.ret (WX.ret1 rfl rfl ?_)))
  exact ⟨by unfold leftV; rw [if_neg (by omega)], M⟩
omit hr in
theorem rdErr_ok (M : Mem w0 w L) (hd : Del (Asr.row g 179 [.slice A r.b.length cap, .int .i64 r.at_, .int .i64 r.err]) L L') :
 Fn Tryz.prog 56 [.pointer (some ⟨g, 0, none⟩)] w fun v w' => v = .int .i64 r.err ∧ Mem w0 w' (Asr.row g 179 [.slice A r.b.length cap, .int .i64 r.at_, .int .i64 r.err] :: L') := by
 replace M := M.del hd
 refine Fn.enter Tryz.func56 rfl Tryz.ntmps56 rfl (W.sub [(0, _)] (.cons rfl .nil) (W.seq (W.region (WL.assign rfl rfl (WL.nil (WX.next (W.sub [(0, _)] (.cons rfl .nil) (W.seq (W.seq (W.region (WL.move rfl rfl (WL.eqNilF Tryz.underlying136 rfl rfl rfl (WL.nil (WX.next (W.sub [(0, _), (4, _)] (.cons rfl (.cons rfl .nil)) (W.condF rfl (W.skip (WX.next (W.seq (W.region (WL.move rfl rfl (WL.nilCheck rfl rfl (WL.fieldR (off := 2) Tryz.underlying179 rfl rfl Tryz.sizeOf29 rfl rfl rfl ?_)))))))))))))))))))))))
 refine WL.loadR Tryz.isAgg29 rfl M Has.a rfl rfl (WL.assign rfl rfl (WL.nil (WX.next (W.sub [(2, _)] (.cons rfl .nil) (W.ret (WX.ret1 rfl rfl ?_))))))
 exact ⟨rfl, M⟩
end
end Go.Proofs.YtlminileigfkcaaGreat
namespace Go.Proofs.YtlminileigfkcaaGreat
namespace Bin
theorem u8_of {n : Nat} (h : n < 256) : (UInt8.ofNat n).toNat = n := by
 rw [UInt8.toNat_ofNat']
 omega
theorem p9 {i n : Nat} (h : i = 9) (hb : n * 128 ^ i < 18446744073709551616) : n < 2 := by
 subst h
 simp only [Nat.reducePow] at hb
 omega
theorem p10 {i n : Nat} (h : i = 10) (hb : n * 128 ^ i < 18446744073709551616) : n = 0 := by
 subst h
 simp only [Nat.reducePow] at hb
 omega
theorem pdiv {i n : Nat} (hb : n * 128 ^ i < 18446744073709551616) : n / 128 * 128 ^ (i + 1) < 18446744073709551616 := by
 refine Nat.lt_of_le_of_lt ?_ hb
 rw [Nat.pow_succ', ← Nat.mul_assoc]
 exact Nat.mul_le_mul_right _ (Nat.div_mul_le_self n 128)
theorem getF_putF : ∀ (f i n : Nat) (r : List UInt8), i + f = 10 → n * 128 ^ i < 18446744073709551616 → (0 < i → 0 < n) →
 getF f i (putF f n ++ r) = (0, n, (putF f n).length)
 | 0, i, n, r, h, hb, hp => by
   have := p10 (by omega) hb
   have := hp (by omega)
   omega
 | f + 1, i, n, r, h, hb, hp => by
   have h9 : i = 9 → n < 2 := fun h => p9 h hb
   rw [putF]
   by_cases h1 : n < 128
   ·rw [if_pos h1, List.singleton_append, getF, u8_of (by omega), if_neg (by omega), if_pos h1]
    rfl
   ·rw [if_neg h1, List.cons_append, getF, u8_of (by omega), if_neg (by omega), if_neg (by omega), getF_putF f (i + 1) (n / 128) r (by omega) (pdiv hb) (by omega)]
    simp only [List.length_cons, Prod.mk.injEq, true_and, and_true]
    omega
theorem getF_put {n : Nat} (h : n < 18446744073709551616) (r : List UInt8) : getF 10 0 (put n ++ r) = (0, n, (put n).length) :=
 getF_putF 10 0 n r rfl (by omega) (by omega)
theorem getF_one : ∀ (f i : Nat) (l : List UInt8) (n k : Nat), getF f i l = (0, n, k) → l.take k = putF f n ∧ 0 < k ∧ k ≤ l.length ∧ (0 < i → 0 < n)
 | 0, i, l, n, k, h => by simp [getF] at h
 | f + 1, i, [], n, k, h => by simp [getF] at h
 | f + 1, i, c :: r, n, k, h => by
   rw [getF] at h
   split at h
   ·simp at h
   ·rename_i h1
    split at h
    ·rename_i h2
     obtain ⟨rfl, rfl⟩ : c.toNat = n ∧ 1 = k := by simpa using h
     refine ⟨?_, by omega, by simp, by omega⟩
     rw [putF, if_pos h2]
     simp
    ·rename_i h2
     split at h
     ·rename_i n' k' h3
      obtain ⟨h4, h5, h6, h7⟩ := getF_one f (i + 1) r n' k' h3
      obtain ⟨rfl, rfl⟩ : c.toNat - 128 + 128 * n' = n ∧ k' + 1 = k := by simpa using h
      have hc : c.toNat < 256 := UInt8.toNat_lt _
      have := h7 (by omega)
      refine ⟨?_, by omega, by simpa using h6, by omega⟩
      rw [putF, if_neg (by omega), List.take_succ_cons, h4]
      have e1 : (c.toNat - 128 + 128 * n') % 128 + 128 = c.toNat := by omega
      have e2 : (c.toNat - 128 + 128 * n') / 128 = n' := by omega
      rw [e1, e2, UInt8.ofNat_toNat]
     ·simp at h
theorem getF_take {l : List UInt8} {n k : Nat} (h : getF 10 0 l = (0, n, k)) : l.take k = put n ∧ 0 < k ∧ k ≤ l.length :=
 have := getF_one 10 0 l n k h
 ⟨this.1, this.2.1, this.2.2.1⟩
end Bin
end Go.Proofs.YtlminileigfkcaaGreat
namespace Go.Proofs.YtlminileigfkcaaGreat
open Go Go.RowKit Bin
namespace Bin
theorem one_U {l : List UInt8} {at_ to : Int} {n : Nat} (hr : rdU l at_ = (n, to, 0)) :
 0 ≤ at_ ∧ at_ < to ∧ to ≤ l.length ∧ (l.drop at_.toNat).take (to.toNat - at_.toNat) = put n ∧ n < 18446744073709551616 := by
 have hlt := rdU_lt l at_
 rw [hr] at hlt
 rcases rdU_cases l at_ with ⟨n', k, e, h0, hg⟩ | ⟨e', e⟩
 ·rw [e] at hr
  obtain ⟨rfl, rfl⟩ : n' = n ∧ at_ + (k : Int) = to := by simpa using hr
  obtain ⟨h1, h2, h3⟩ := getF_take hg
  rw [List.length_drop] at h3
  refine ⟨h0, by omega, by omega, ?_, hlt⟩
  rw [show (at_ + (k : Int)).toNat - at_.toNat = k by omega]
  exact h1
 ·rw [e] at hr
  simp only [Prod.mk.injEq] at hr
  omega
/-- What was put is read. -/
theorem rdU_put {n : Nat} (hn : n < 18446744073709551616) (a r : List UInt8) {at_ : Int} (h : at_ = (a.length : Int)) : rdU (a ++ (put n ++ r)) at_ = (n, at_ + ((put n).length : Int), 0) := by
 subst h
 refine rdU_ok (by omega) (by simp; omega) ?_
 rw [Int.toNat_natCast, List.drop_left]
 exact getF_put hn r
theorem put_len10 {n : Nat} (h : n < 18446744073709551616) : (put n).length ≤ 10 := by
 have h1 := getF_put h []
 exact (getF_lt 10 0 _ _ _ rfl h1).2.2.1
end Bin
end Go.Proofs.YtlminileigfkcaaGreat
namespace Go.Proofs.YtlminileigfkcaaGreat
open Go Go.RowKit Bin
/-- A pair of texts. -/
abbrev Pr := List UInt8 × List UInt8
/-- A change. -/
structure Cg where
 key : List UInt8
 value : List UInt8
 gone : Bool
deriving Inhabited
def Cg.right (c : Cg) : Prop := 1 ≤ c.key.length ∧ c.key.length ≤ 16 ∧ c.value.length ≤ 128 ∧ ¬ (c.gone = true ∧ c.value ≠ [])
instance (c : Cg) : Decidable c.right := by unfold Cg.right; infer_instance
def rightB (l : List Cg) : Prop := l.length ≤ 32 ∧ ∀ c ∈ l, c.right
instance (l : List Cg) : Decidable (rightB l) := by unfold rightB; infer_instance
def rightE (l : List Cg) : Nat := if rightB l then 0 else 2
def txtB (s : List UInt8) : List UInt8 := put s.length ++ s
def encC (c : Cg) : List UInt8 := txtB c.key ++ (if c.gone = true then [1] else 0 :: txtB c.value)
def encB (l : List Cg) : List UInt8 := put l.length ++ l.flatMap encC
def encE (l : List Cg) : Nat := if rightB l then (if 1024 < (encB l).length then 3 else 0) else 2
def encV (l : List Cg) : List UInt8 := if encE l = 0 then encB l else []
theorem encE_0 {l : List Cg} : encE l = 0 ↔ rightB l ∧ (encB l).length ≤ 1024 := by
 unfold encE
 split
 ·rename_i h
  split
  ·rename_i h2
   exact ⟨fun h => absurd h (by decide), fun h => by omega⟩
  ·rename_i h2
   exact ⟨fun _ => ⟨h, by omega⟩, fun _ => rfl⟩
 ·rename_i h
  exact ⟨fun h => absurd h (by decide), fun h2 => absurd h2.1 h⟩
/-- A change that is read. -/
def decC (b : List UInt8) (a : Nat) : Option (Cg × Nat) :=
 if (rdB b a 16).2.2 ≠ 0 ∨ b.length ≤ (rdB b a 16).2.1.toNat ∨ 1 < (el b (rdB b a 16).2.1.toNat).toNat then none
 else if (el b (rdB b a 16).2.1.toNat).toNat = 1 then some (⟨(rdB b a 16).1, [], true⟩, (rdB b a 16).2.1.toNat + 1)
 else if (rdB b ((rdB b a 16).2.1.toNat + 1 : Nat) 128).2.2 ≠ 0 then none
 else some (⟨(rdB b a 16).1, (rdB b ((rdB b a 16).2.1.toNat + 1 : Nat) 128).1, false⟩, (rdB b ((rdB b a 16).2.1.toNat + 1 : Nat) 128).2.1.toNat)
def decN (b : List UInt8) : Nat → Nat → Option (List Cg × Nat)
 | 0, a => some ([], a)
 | k + 1, a => match decC b a with
   | none => none
   | some (c, a2) => (decN b k a2).map fun p => (c :: p.1, p.2)
/-- The batch of bytes. -/
def decB (b : List UInt8) : Option (List Cg) :=
 if (rdU b 0).2.2 ≠ 0 ∨ 32 < (rdU b 0).1 then none
 else match decN b (rdU b 0).1 (rdU b 0).2.1.toNat with
 | none => none
 | some (l, a) => if rightB l ∧ a = b.length ∧ b.length ≤ 1024 then some l else none
/-- What is left to be read, behind what was. -/
def remD (b : List UInt8) (l : List Cg) (k a : Nat) : Option (List Cg × Nat) := (decN b k a).map fun p => (l ++ p.1, p.2)
theorem remD_0 (b : List UInt8) (l : List Cg) (a : Nat) : remD b l 0 a = some (l, a) := by simp [remD, decN]
theorem remD_step {b : List UInt8} {l : List Cg} {k a a2 : Nat} {c : Cg} (h : decC b a = some (c, a2)) : remD b l (k + 1) a = remD b (l ++ [c]) k a2 := by
 unfold remD
 rw [decN, h]
 dsimp only
 rw [Option.map_map]
 congr 1
 funext p
 simp
theorem remD_none {b : List UInt8} {l : List Cg} {k a : Nat} (h : decC b a = none) : remD b l (k + 1) a = none := by
 unfold remD
 rw [decN, h]
 rfl
theorem remD_nil (b : List UInt8) (k a : Nat) : remD b [] k a = decN b k a := by
 unfold remD
 cases decN b k a <;> simp
theorem uint_stick {r : Rs} (h : r.err ≠ 0) : uintS r = r ∧ uintV r = 0 := by
 constructor
 ·unfold uintS; rw [if_pos h]
 ·unfold uintV; rw [if_neg (fun h' => h h'.1)]
theorem text_stick {r : Rs} {m : Int} (h : r.err ≠ 0) : textS r m = r ∧ textV r m = [] := by
 constructor
 ·unfold textS; rw [if_pos h]
 ·unfold textV; rw [if_neg (fun h' => h h'.1)]
theorem uintV_lt (r : Rs) : uintV r < 18446744073709551616 := by
 unfold uintV
 split
 ·exact rdU_lt _ _
 ·omega
theorem drop_take_split {b : List UInt8} {i j : Nat} (h1 : i ≤ j) : b.drop i = (b.drop i).take (j - i) ++ b.drop j := by
 have : b.drop j = (b.drop i).drop (j - i) := by
  rw [List.drop_drop]
  congr 1
  omega
 rw [this, List.take_append_drop]
/-- What stands where a number is read. -/
theorem rdU_split {b : List UInt8} {k : Nat} (he : (rdU b k).2.2 = 0) : ∃ k' : Nat, (rdU b k).2.1 = (k' : Int) ∧ k < k' ∧ k' ≤ b.length ∧ b.drop k = put (rdU b k).1 ++ b.drop k' ∧ (rdU b k).1 < 18446744073709551616 := by
 obtain ⟨h1, h2, h3, h4, h5⟩ := one_U (l := b) (at_ := k) (to := (rdU b k).2.1) (n := (rdU b k).1) (by rw [← he])
 refine ⟨(rdU b k).2.1.toNat, by omega, by omega, by omega, ?_, h5⟩
 rw [← h4, Int.toNat_natCast]
 exact drop_take_split (by omega)
theorem rdB_split {b : List UInt8} {k : Nat} {m : Nat} (he : (rdB b k m).2.2 = 0) : ∃ k' : Nat, (rdB b k m).2.1 = (k' : Int) ∧ k < k' ∧ k' ≤ b.length ∧ b.drop k = txtB (rdB b k m).1 ++ b.drop k' ∧ (rdB b k m).1.length ≤ m := by
 unfold rdB at he ⊢
 split at he
 ·rename_i h0; exact absurd he h0
 ·rename_i h0
  have h0' : (rdU b k).2.2 = 0 := by simpa using h0
  split at he
  ·simp at he
  ·rename_i h1
   split at he
   ·simp at he
   ·rename_i h2
    rw [if_neg h0, if_neg h1, if_neg h2]
    obtain ⟨k1, e1, l1, l2, d1, _⟩ := rdU_split h0'
    rw [e1] at h2 ⊢
    have hlen : ((b.drop k1).take (rdU b k).1).length = (rdU b k).1 := by rw [List.length_take, List.length_drop]; omega
    rw [Int.toNat_natCast]
    refine ⟨k1 + (rdU b k).1, by push_cast; rfl, by omega, by omega, ?_, by dsimp only; rw [hlen]; omega⟩
    dsimp only
    unfold txtB
    rw [hlen, List.append_assoc, ← List.drop_drop, List.take_append_drop]
    exact d1
theorem put_small : ∀ n, n < 2 → put n = [UInt8.ofNat n]
 | 0, _ => rfl
 | 1, _ => rfl
theorem el_drop {b : List UInt8} {k : Nat} {x : UInt8} {r : List UInt8} (h : b.drop k = x :: r) : k < b.length ∧ el b k = x ∧ b.drop (k + 1) = r := by
 have hk : k < b.length := by
  apply Classical.byContradiction
  intro hc
  rw [List.drop_eq_nil_of_le (by omega)] at h
  cases h
 rw [List.drop_eq_getElem_cons hk] at h
 injection h with h1 h2
 exact ⟨hk, by simp [el, hk, h1], h2⟩
/-- One byte that is 0 or 1 is a number. -/
theorem rdU_flag {b : List UInt8} {k : Nat} (hk : k < b.length) (h : (el b k).toNat ≤ 1) : rdU b k = ((el b k).toNat, ((k + 1 : Nat) : Int), 0) := by
 have hp : put (el b k).toNat = [el b k] := by
  rw [put_small _ (by omega)]
  simp
 have hd : b.drop k = put (el b k).toNat ++ b.drop (k + 1) := by
  rw [hp, List.drop_eq_getElem_cons hk]
  simp [el, hk]
 have h1 := rdU_put (n := (el b k).toNat) (by omega) (b.take k) (b.drop (k + 1)) (at_ := k) (by rw [List.length_take]; omega)
 rw [← hd, List.take_append_drop, hp] at h1
 rw [h1]
 simp
theorem flag_rdU {b : List UInt8} {k : Nat} (he : (rdU b k).2.2 = 0) (h : (rdU b k).1 ≤ 1) : k < b.length ∧ (el b k).toNat = (rdU b k).1 := by
 obtain ⟨k1, e1, l1, l2, d1, _⟩ := rdU_split he
 rw [put_small _ (by omega)] at d1
 obtain ⟨q1, q2, _⟩ := el_drop d1
 refine ⟨q1, ?_⟩
 rw [q2]
 have : (UInt8.ofNat (rdU b k).1).toNat = (rdU b k).1 := u8_of (by omega)
 exact this
def stepF (r : Rs) : Nat := uintV (textS r 16)
def stepC (r : Rs) : Cg := ⟨textV r 16, if stepF r = 1 then [] else textV (uintS (textS r 16)) 128, decide (stepF r = 1)⟩
def stepS (r : Rs) : Rs := if stepF r = 1 then uintS (textS r 16) else textS (uintS (textS r 16)) 128
/-- The reader's way to read a change. -/
theorem dec_prog {b : List UInt8} {a : Nat} :
 (1 < stepF ⟨b, a, 0⟩ → decC b a = none) ∧ (stepF ⟨b, a, 0⟩ ≤ 1 → (stepS ⟨b, a, 0⟩).err ≠ 0 → decC b a = none) ∧ (stepF ⟨b, a, 0⟩ ≤ 1 → (stepS ⟨b, a, 0⟩).err = 0 → ∃ a2 : Nat, stepS ⟨b, a, 0⟩ = ⟨b, a2, 0⟩ ∧ a2 ≤ b.length ∧ decC b a = some (stepC ⟨b, a, 0⟩, a2)) := by
 by_cases h1 : (rdB b a 16).2.2 = 0
 ·have hT : textS ⟨b, a, 0⟩ 16 = ⟨b, (rdB b a 16).2.1, 0⟩ := by unfold textS; rw [if_neg (by simp), if_neg (by simpa using h1)]
  have hV : textV ⟨b, a, 0⟩ 16 = (rdB b a 16).1 := by unfold textV; rw [if_pos ⟨rfl, h1⟩]
  obtain ⟨k1, e1, l1, l2, d1, _⟩ := rdB_split (m := 16) h1
  rw [show ((16 : Nat) : Int) = 16 from rfl] at e1
  rw [e1] at hT
  unfold decC stepC stepS stepF
  rw [hT, hV, e1, Int.toNat_natCast]
  by_cases h2 : (rdU b k1).2.2 = 0
  ·have hU : uintS ⟨b, k1, 0⟩ = ⟨b, (rdU b k1).2.1, 0⟩ := by unfold uintS; rw [if_neg (by simp), if_neg (by simpa using h2)]
   have hF : uintV ⟨b, k1, 0⟩ = (rdU b k1).1 := by unfold uintV; rw [if_pos ⟨rfl, h2⟩]
   rw [hU, hF]
   by_cases h3 : (rdU b k1).1 ≤ 1
   ·obtain ⟨f1, f2⟩ := flag_rdU h2 h3
    have hr := rdU_flag f1 (by omega)
    have hne : ¬ ((rdB b a 16).2.2 ≠ 0 ∨ b.length ≤ k1 ∨ 1 < (el b k1).toNat) := by rintro (h | h | h); exact h h1; omega; omega
    rw [if_neg hne, f2]
    have e2 : (rdU b k1).2.1 = ((k1 + 1 : Nat) : Int) := by rw [hr]
    rw [e2]
    refine ⟨fun h => by omega, fun _ => ?_, fun _ => ?_⟩
    ·by_cases h4 : (rdU b k1).1 = 1
     ·rw [if_pos h4]
      exact fun h => absurd rfl h
     ·rw [if_neg h4, if_neg h4]
      intro h5
      by_cases h6 : (rdB b ((k1 + 1 : Nat) : Int) 128).2.2 = 0
      ·exfalso
       apply h5
       unfold textS
       rw [if_neg (by simp), if_neg (by simpa using h6)]
      ·rw [if_pos h6]
    ·by_cases h4 : (rdU b k1).1 = 1
     ·simp only [if_pos h4]
      intro _
      exact ⟨k1 + 1, rfl, by omega, by rw [decide_eq_true h4]⟩
     ·simp only [if_neg h4]
      intro h5
      by_cases h6 : (rdB b ((k1 + 1 : Nat) : Int) 128).2.2 = 0
      ·obtain ⟨k2, e3, l3, l4, d3, _⟩ := rdB_split (m := 128) h6
       rw [show ((128 : Nat) : Int) = 128 from rfl] at e3
       refine ⟨k2, ?_, l4, ?_⟩
       ·unfold textS
        rw [if_neg (by simp), if_neg (by simpa using h6)]
        dsimp only
        rw [e3]
       ·have hv : textV ⟨b, ((k1 + 1 : Nat) : Int), 0⟩ 128 = (rdB b ((k1 + 1 : Nat) : Int) 128).1 := by unfold textV; rw [if_pos ⟨rfl, h6⟩]
        rw [if_neg (by simpa using h6), hv, e3, decide_eq_false h4, Int.toNat_natCast]
      ·exfalso
       unfold textS at h5
       rw [if_neg (by simp), if_pos h6] at h5
       exact h6 h5
   ·have hbad : (rdB b a 16).2.2 ≠ 0 ∨ b.length ≤ k1 ∨ 1 < (el b k1).toNat := by
     rcases Nat.lt_or_ge k1 b.length with hk | hk
     ·right; right
      rcases Nat.lt_or_ge 1 (el b k1).toNat with h5 | h5
      ·exact h5
      ·rw [rdU_flag hk h5] at h3
       exact absurd h5 h3
     ·exact .inr (.inl hk)
    rw [if_pos hbad]
    exact ⟨fun _ => rfl, fun _ _ => rfl, fun h => absurd h h3⟩
  ·have hU : uintS ⟨b, k1, 0⟩ = ⟨b, k1, (rdU b k1).2.2⟩ := by unfold uintS; rw [if_neg (by simp), if_pos h2]
   have hF : uintV ⟨b, k1, 0⟩ = 0 := by unfold uintV; rw [if_neg (fun h => h2 h.2)]
   have hbad : (rdB b a 16).2.2 ≠ 0 ∨ b.length ≤ k1 ∨ 1 < (el b k1).toNat := by
    rcases Nat.lt_or_ge k1 b.length with hk | hk
    ·right; right
     rcases Nat.lt_or_ge 1 (el b k1).toNat with h5 | h5
     ·exact h5
     ·rw [rdU_flag hk h5] at h2
      exact absurd rfl h2
    ·exact .inr (.inl hk)
   rw [if_pos hbad, hU, hF]
   refine ⟨fun _ => rfl, fun _ _ => rfl, fun _ h => ?_⟩
   rw [if_neg (by decide), (text_stick (r := ⟨b, k1, (rdU b k1).2.2⟩) h2).1] at h
   exact absurd h h2
 ·have hT : textS ⟨b, a, 0⟩ 16 = ⟨b, a, (rdB b a 16).2.2⟩ := by unfold textS; rw [if_neg (by simp), if_pos h1]
  have hs := uint_stick (r := ⟨b, a, (rdB b a 16).2.2⟩) h1
  have hn : decC b a = none := by unfold decC; rw [if_pos (.inl h1)]
  refine ⟨fun _ => hn, fun _ _ => hn, fun _ h => ?_⟩
  unfold stepS stepF at h
  rw [hT, hs.1, hs.2, if_neg (by decide), (text_stick (r := ⟨b, a, (rdB b a 16).2.2⟩) h1).1] at h
  exact absurd h h1
theorem decC_good {b : List UInt8} {a a2 : Nat} {c : Cg} (h : decC b a = some (c, a2)) : a < a2 ∧ a2 ≤ b.length ∧ b.drop a = encC c ++ b.drop a2 ∧ c.key.length ≤ 16 ∧ c.value.length ≤ 128 := by
 unfold decC at h
 split at h
 ·cases h
 ·rename_i hne
  have h1 : (rdB b a 16).2.2 = 0 := Classical.byContradiction fun h => hne (.inl h)
  obtain ⟨k1, e1, l1, l2, d1, m1⟩ := rdB_split (m := 16) h1
  rw [show ((16 : Nat) : Int) = 16 from rfl] at e1 d1 m1
  rw [e1, Int.toNat_natCast] at h hne
  have hk : k1 < b.length := by
   rcases Nat.lt_or_ge k1 b.length with h | h
   ·exact h
   ·exact absurd (.inr (.inl h)) hne
  have hd : b.drop k1 = el b k1 :: b.drop (k1 + 1) := by rw [List.drop_eq_getElem_cons hk]; simp [el, hk]
  split at h
  ·rename_i h2
   injection h with h
   injection h with h3 h4
   subst h3 h4
   have e : el b k1 = 1 := UInt8.toNat_inj.1 h2
   refine ⟨by omega, by omega, ?_, m1, by simp⟩
   unfold encC
   rw [if_pos rfl, d1, hd, e]
   simp
  ·rename_i h2
   split at h
   ·cases h
   ·rename_i h3
    have h3' : (rdB b ((k1 + 1 : Nat) : Int) 128).2.2 = 0 := by simpa using h3
    obtain ⟨k2, e3, l3, l4, d3, m3⟩ := rdB_split (m := 128) h3'
    rw [show ((128 : Nat) : Int) = 128 from rfl] at e3 d3 m3
    rw [e3, Int.toNat_natCast] at h
    injection h with h
    injection h with h4 h5
    subst h4 h5
    have hz : (el b k1).toNat = 0 := by
     rcases Nat.lt_or_ge 1 (el b k1).toNat with h | h
     ·exact absurd (.inr (.inr h)) hne
     ·omega
    have e : el b k1 = 0 := UInt8.toNat_inj.1 hz
    refine ⟨by omega, l4, ?_, m1, m3⟩
    unfold encC
    rw [if_neg (by simp), d1, hd, e, d3]
    simp
theorem decN_good {b : List UInt8} : ∀ (n a a2 : Nat) (l : List Cg), a ≤ b.length → decN b n a = some (l, a2) → a2 ≤ b.length ∧ l.length = n ∧ b.drop a = l.flatMap encC ++ b.drop a2 ∧ ∀ c ∈ l, c.key.length ≤ 16 ∧ c.value.length ≤ 128
 | 0, a, a2, l, ha, h => by
   rw [decN] at h
   injection h with h
   injection h with h1 h2
   subst h1 h2
   exact ⟨ha, rfl, by simp, fun c hc => by cases hc⟩
 | n + 1, a, a2, l, ha, h => by
   rw [decN] at h
   cases hc : decC b a with
   | none => rw [hc] at h; cases h
   | some p =>
     obtain ⟨c, a1⟩ := p
     rw [hc] at h
     dsimp only at h
     cases hn : decN b n a1 with
     | none => rw [hn] at h; cases h
     | some q =>
       obtain ⟨l1, a3⟩ := q
       rw [hn] at h
       simp only [Option.map_some, Option.some.injEq, Prod.mk.injEq] at h
       obtain ⟨rfl, rfl⟩ := h
       obtain ⟨g1, g2, g3, g4, g5⟩ := decC_good hc
       obtain ⟨i1, i2, i3, i4⟩ := decN_good n a1 a3 l1 g2 hn
       refine ⟨i1, by simp [i2], ?_, fun x hx => ?_⟩
       ·rw [g3, i3]
        simp
       ·rcases List.mem_cons.1 hx with rfl | hx
        ·exact ⟨g4, g5⟩
        ·exact i4 x hx
/-- What is read, written again. -/
theorem dec_again {b : List UInt8} {l : List Cg} {a2 : Nat} (h0 : (rdU b 0).2.2 = 0) (h : decN b (rdU b 0).1 (rdU b 0).2.1.toNat = some (l, a2)) : b = encB l ++ b.drop a2 ∧ a2 ≤ b.length ∧ l.length = (rdU b 0).1 ∧ ∀ c ∈ l, c.key.length ≤ 16 ∧ c.value.length ≤ 128 := by
 obtain ⟨k1, e1, l1, l2, d1, _⟩ := rdU_split (k := 0) h0
 rw [show ((0 : Nat) : Int) = 0 from rfl] at e1 d1
 rw [e1, Int.toNat_natCast] at h
 obtain ⟨i1, i2, i3, i4⟩ := decN_good _ _ _ _ l2 h
 refine ⟨?_, i1, i2, i4⟩
 unfold encB
 rw [i2, List.append_assoc, ← i3, ← d1, List.drop_zero]
theorem dec_ref {b : List UInt8} {l : List Cg} {a2 : Nat} (h0 : (rdU b 0).2.2 = 0) (hn : (rdU b 0).1 ≤ 32) (h : decN b (rdU b 0).1 (rdU b 0).2.1.toNat = some (l, a2)) :
 decB b = if encE l = 0 ∧ encV l = b then some l else none := by
 obtain ⟨h1, h2, h3, h4⟩ := dec_again h0 h
 unfold decB
 rw [if_neg (by rintro (h | h); exact h h0; omega), h]
 dsimp only
 have hiff : (rightB l ∧ a2 = b.length ∧ b.length ≤ 1024) ↔ (encE l = 0 ∧ encV l = b) := by
  constructor
  ·rintro ⟨q1, q2, q3⟩
   rw [q2, List.drop_length, List.append_nil] at h1
   have : encE l = 0 := encE_0.2 ⟨q1, by rw [← h1]; exact q3⟩
   exact ⟨this, by unfold encV; rw [if_pos this, ← h1]⟩
  ·rintro ⟨q1, q2⟩
   unfold encV at q2
   rw [if_pos q1] at q2
   obtain ⟨q3, q4⟩ := encE_0.1 q1
   rw [q2] at h1 q4
   have := congrArg List.length h1
   rw [List.length_append, List.length_drop] at this
   exact ⟨q3, by omega, q4⟩
 by_cases hc : rightB l ∧ a2 = b.length ∧ b.length ≤ 1024
 ·rw [if_pos hc, if_pos (hiff.1 hc)]
 ·rw [if_neg hc, if_neg (fun h => hc (hiff.2 h))]
theorem decB_right {b : List UInt8} {l : List Cg} (h : decB b = some l) : rightB l := by
 unfold decB at h
 split at h
 ·cases h
 ·split at h
  ·cases h
  ·split at h
   ·rename_i h2
    cases h
    exact h2.1
   ·cases h
end Go.Proofs.YtlminileigfkcaaGreat
namespace Go.Proofs.YtlminileigfkcaaGreat
open Go Go.RowKit
theorem zeroCells_u8 (k : Nat) : (Builtin.zeroCells (Value.int .u8 0).cells k).toList = bs (List.replicate k 0) := by
 have e : (Value.int .u8 0).cells = #[.int .u8 0] := rfl
 rw [e]
 unfold Builtin.zeroCells bs
 apply List.ext_getElem
 ·simp
 ·intro i h1 h2
  simp [Nat.mod_one]
  rfl
section
variable {P : Program} {w0 w : World} {L : List Asr} {t tn e : TypeId} {cap : Nat} {A : Option Addr} {l : List UInt8} {kq kn : IntKind} {i : TypeInfo}
theorem run_appendZ (ht : P.underlying t = some (.slice e)) (htn : P.underlying tn = some (.int kn)) (hi : P.info? e = some i) (hz : i.zero = some (.int .u8 0)) (hs : i.size = 1) (hby : i.bytes = 1) (ty : TypeId) (M : Mem w0 w (Asr.own e 1 A l.length cap (bs l) :: L)) (hA : A ≠ none) (k : Nat) (hb : l.length + k ≤ 140737488355328) :
 ∃ A2 cap2 w', (Builtin.append_ #[t, tn] ty #[.slice A l.length cap, .int kq k]).run P w = .ok (.slice A2 (l.length + k) cap2) w' ∧ Mem w0 w' (Asr.own e 1 A2 (l.length + k) cap2 (bs (l ++ List.replicate k 0)) :: L) := by
 obtain ⟨g, sp, rfl, M1, hcl, hcm, hnc, hvl⟩ := M.ownRow hA
 have hg : w.heap[g]? = some (.cells (bs l ++ sp).toArray e (0, 0)) := M1.head
 have hw : IntKind.i64.wrap (k : Int) = k := by rw [IntKind.wrap_i64]; omega
 have hneg : ¬ ((k : Int) < 0) := by omega
 have hrl : (List.replicate k (0 : UInt8)).length = k := List.length_replicate
 have h48i : ¬ (281474976710656 < (k : Int) * ((1 : Nat) : Int)) := by omega
 by_cases h0 : k = 0
 ·subst h0
  refine ⟨some ⟨g, 0, none⟩, cap, w, ?_, by simpa using M⟩
  simp [Builtin.append_, run_underlying ht, run_underlying htn, sizeOf, typeInfo, hi, hs, hby, asInt, asIntOf, hnc, storeCells, IntKind.wrap_i64]
 ·have hne : ¬ (k * 1 = 0) := by omega
  by_cases hroom : l.length + k ≤ cap
  ·have hfit : l.length * i.size + (bs (List.replicate k 0)).length ≤ (bs l ++ sp).toArray.size := by
    rw [hs, bs_length, hrl, List.size_toArray, hcl]
    omega
   have hst := run_storeCells_at P g (0 + l.length * i.size) e (bs (List.replicate k 0)) 0 (bs l ++ sp).toArray w hg (by simpa using hfit) (bs_oneCell _)
   simp only [Nat.add_zero] at hst
   refine ⟨some ⟨g, 0, none⟩, cap, w.setRow g ((bs l ++ sp).toArray.toList.take (0 + l.length * i.size) ++ bs (List.replicate k 0) ++ (bs l ++ sp).toArray.toList.drop (0 + l.length * i.size + (bs (List.replicate k 0)).length)).toArray, ?_, ?_⟩
   ·have hzc := zeroCells_u8 k
    simp [Builtin.append_, run_underlying ht, run_underlying htn, sizeOf, typeInfo, zeroValue, hi, hz, hs, hby, asInt, asIntOf, hw, hneg, h0, hroom, Addr.add_lit, hzc] at hst ⊢
    first
    | rw [if_neg (by omega)]
      simp [hst]
    | simp [hst]
   ·have e1 : (bs l ++ sp).toArray.toList.take (0 + l.length * i.size) ++ bs (List.replicate k 0) ++ (bs l ++ sp).toArray.toList.drop (0 + l.length * i.size + (bs (List.replicate k 0)).length) = bs (l ++ List.replicate k 0) ++ sp.drop k := by
     rw [hs, bs_append, bs_length, hrl, Nat.zero_add, Nat.mul_one, ← bs_length l]
     simp [List.drop_append]
    rw [e1]
    have M2 : Mem w0 (w.setRow g (bs (l ++ List.replicate k 0) ++ sp.drop k).toArray) (Asr.row g e (bs (l ++ List.replicate k 0) ++ sp.drop k) :: L) :=
     M1.write ⟨rfl, rfl, rfl, by simp, fun k _ hk => setRow_other w g k _ (fun e => hk e)⟩ (setRow_heap w g _ _ _ _ hg) (fun _ hf => .inl hf)
    refine M2.rowOwn _ rfl (by rw [bs_length, List.length_append, hrl, Nat.mul_one]) ?_ hcm hroom
    rw [List.length_append, bs_length, List.length_append, hrl, List.length_drop]
    rw [List.length_append, bs_length] at hcl
    omega
  ·have hcells : ∀ j u, (bs l)[j]? = some u → w.drew.cell? ((⟨g, 0, none⟩ : Addr).add j) = some u := by
    intro j u hu
    have : w.cell? ((⟨g, 0, none⟩ : Addr).add j) = some u := by
     rw [add_lit, Nat.zero_add, cell_of_row w g j _ e _ hg]
     have hj := (List.getElem?_eq_some_iff.1 hu).1
     simp [List.getElem?_append_left hj, hu]
    exact this
   have hold : (Builtin.firstCells i.size l.length (.slice (some ⟨g, 0, none⟩) l.length cap)).run P w.drew = .ok (bs l).toArray w.drew :=
    run_firstCells_some (P := P) w.drew i.size l.length ⟨g, 0, none⟩ l.length cap (bs l) (by rw [bs_length, hs, Nat.mul_one]) hcells
   have hr := Lib.run_append_grow_zeros (P := P) w t tn ty e i (.int .u8 0) kq kn ht htn hi hz (some ⟨g, 0, none⟩) l.length cap (bs l) hold k (by omega) (by omega) (by omega) (by omega) (by rw [hby]; omega) (by rw [hby]; exact growslice_fits (by omega) (by omega))
   have hge := grownCap_ge w (l.length + k) cap e
   have hcm2 : grownCap w (l.length + k) cap e ≤ maxLen := grownCap_le_maxLen w (l.length + k) cap e (by simp only [maxLen]; omega)
   refine ⟨_, _, _, hr, ?_⟩
   have M3 := (M.tail.drew).alloc (.cells ((bs l).toArray ++ Builtin.zeroCells (Value.int .u8 0).cells k ++ Builtin.zeroCells (Value.int .u8 0).cells (grownCap w (l.length + k) cap e - (l.length + k))) e)
   have e1 : ((bs l).toArray ++ Builtin.zeroCells (Value.int .u8 0).cells k ++ Builtin.zeroCells (Value.int .u8 0).cells (grownCap w (l.length + k) cap e - (l.length + k))) = (bs (l ++ List.replicate k 0) ++ (Builtin.zeroCells (Value.int .u8 0).cells (grownCap w (l.length + k) cap e - (l.length + k))).toList).toArray := by
    apply Array.ext'
    rw [bs_append, ← zeroCells_u8]
    simp
   have M2 : Mem w0 (w.drew.alloc (.cells ((bs l).toArray ++ Builtin.zeroCells (Value.int .u8 0).cells k ++ Builtin.zeroCells (Value.int .u8 0).cells (grownCap w (l.length + k) cap e - (l.length + k))) e)) (Asr.row w.heap.size e (bs (l ++ List.replicate k 0) ++ (Builtin.zeroCells (Value.int .u8 0).cells (grownCap w (l.length + k) cap e - (l.length + k))).toList) :: L) := by
    rw [Asr.row, ← e1]
    exact M3
   refine M2.rowOwn _ rfl (by rw [bs_length, List.length_append, hrl, Nat.mul_one]) ?_ hcm2 hge
   rw [List.length_append, bs_length, List.length_append, hrl, zeroCells_u8, bs_length, List.length_replicate]
   omega
end
section
variable {P : Program} {n : Nat} {ρ : List (Nat × Value)} {w0 w : World} {rest : List Oper} {L L' : List Asr} {Y : Sq P n} {X : SqV P n}
variable {d : Nat} {ty : TypeId} {pos : String} {aft : Array Edge} {xo yo : Operand} {t t' tn e : TypeId} {kq kn : IntKind} {i : TypeInfo}
theorem WL.appendZ {A : Option Addr} {m cap k : Nat} {z : Int} {l : List UInt8} (ht : P.underlying t = some (.slice e)) (htn : P.underlying tn = some (.int kn)) (hi : P.info? e = some i) (hz : i.zero = some (.int .u8 0)) (hs : i.size = 1) (hby : i.bytes = 1) (hx : ev ρ xo = some (.slice A m cap)) (hy : ev ρ yo = some (.int kq z))
 (M : Mem w0 w L) (h : Del (Asr.own e 1 A l.length cap (bs l)) L L') (hl : m = l.length) (hk : z = (k : Int)) (h0 : 0 < l.length) (hb : l.length + k ≤ 140737488355328) (hd : Nat.blt d n = true)
 (kk : ∀ A2 cap2 w', Mem w0 w' (Asr.own e 1 A2 (l ++ List.replicate k 0).length cap2 (bs (l ++ List.replicate k 0)) :: L') → Y.S rest ((d, .slice A2 (l ++ List.replicate k 0).length cap2) :: ρ) w') :
 Y.S (⟨some d, .call ⟨.builtin .append, #[xo, yo], #[t, tn]⟩, ty, pos, aft, none⟩ :: rest) ρ w := by
 subst hl hk
 have M1 := M.del h
 have hA : A ≠ none := by
  rintro rfl
  rcases M1.head.2 with ⟨_, h2, _⟩ | ⟨g, sp, h2, _⟩
  ·omega
  ·cases h2
 obtain ⟨A2, cap2, w', hr, M'⟩ := run_appendZ (kq := kq) ht htn hi hz hs hby ty M1 hA k hb
 have e : (l ++ List.replicate k (0 : UInt8)).length = l.length + k := by simp
 have k2 := kk A2 cap2 w'
 rw [e] at k2
 exact WL.valW (v := .slice A2 (l.length + k) cap2) (w' := w') rfl rfl hd (fun a ha => by
  simp only [execOp, resolve, invoke, builtin, Sem.run_bind, Sem.run_pure, Result.andThen_ok, List.map_toArray, List.map_cons, List.map_nil, ha.eval hx, ha.eval hy, hr]) (k2 M')
end
end Go.Proofs.YtlminileigfkcaaGreat
namespace Go.Proofs.YtlminileigfkcaaGreat
open Go Go.RowKit
theorem str_size (l : List UInt8) : (ByteArray.mk l.toArray).size = l.length := by simp [ByteArray.size]
section
variable {P : Program} {w0 w : World} {L : List Asr} {t tx e : TypeId} {cap : Nat} {A : Option Addr} {l s : List UInt8} {i : TypeInfo} {bytes : Nat}
end
section
variable {P : Program} {n : Nat} {ρ : List (Nat × Value)} {w0 w : World} {rest : List Oper} {L L' : List Asr} {Y : Sq P n} {X : SqV P n}
variable {d : Nat} {ty : TypeId} {pos : String} {aft : Array Edge} {x y : Operand} {t t' tx e : TypeId}
theorem WL.addS {l m : List UInt8} (hx : ev ρ x = some (str l)) (hy : ev ρ y = some (str m)) (hb : l.length + m.length ≤ 1000000) (hd : Nat.blt d n = true)
 (kk : X.S rest ((d, str (l ++ m)) :: ρ) w) : X.S (⟨some d, .binOp .add t x y t', ty, pos, aft, none⟩ :: rest) ρ w :=
 WL.bin hx hy (eqGuard_at_string ..) (by
  rw [str, str, binOp_string_add]
  have e : (ByteArray.mk l.toArray) ++ (ByteArray.mk m.toArray) = ByteArray.mk (l ++ m).toArray := by
   apply ByteArray.ext
   simp
  simp [Op.stringOp, e, str, str_size]
  try omega) hd kk
theorem WL.mkFn {f : _root_.Go.Fn} {cs : List Operand} {vs : List Value} (hx : evs ρ cs = some vs) (hd : Nat.blt d n = true) (kk : X.S rest ((d, .func f #[] vs.toArray) :: ρ) w) :
 X.S (⟨some d, .makeFunc f #[] cs.toArray, ty, pos, aft, none⟩ :: rest) ρ w :=
 WL.val rfl rfl hd (fun a ha => by
  have e := ha.evals hx
  simp [execOp, Instr.makeFunc, e]) kk
end
end Go.Proofs.YtlminileigfkcaaGreat
namespace Go.Proofs.YtlminileigfkcaaGreat
open Go Go.RowKit Go.Lib
/-- The bytes of a text as they are laid. -/
def Asr.strB (g : Nat) (e : TypeId) (l : List UInt8) (sp : List Value) : Asr := Asr.obj g (.cells (bs l ++ sp).toArray e ((bs l ++ sp).length, (bs l ++ sp).length + 1))
theorem Mem.rdS {w0 w : World} {L : List Asr} {g : Nat} {e : TypeId} {l : List UInt8} {sp : List Value} {cap : Nat} (M : Mem w0 w L) (h : Has (Asr.strB g e l sp) L) (hc : l.length ≤ cap) : RdB w (some ⟨g, 0, none⟩) cap l := by
 obtain ⟨L', h⟩ := h.del
 have hg : w.heap[g]? = some (.cells (bs l ++ sp).toArray e ((bs l ++ sp).length, (bs l ++ sp).length + 1)) := (M.del h).head
 refine ⟨by simp [bs], hc, fun _ => ⟨_, rfl, (Array.getElem?_eq_some_iff.1 hg).1, fun j v hv => ?_⟩⟩
 rw [add_lit, Nat.zero_add, cell_of_row w g j _ e _ hg]
 have hj := (List.getElem?_eq_some_iff.1 hv).1
 simp [List.getElem?_append_left hj, hv]
section
variable {P : Program} {n : Nat} {ρ : List (Nat × Value)} {w0 w : World} {rest : List Oper} {L : List Asr} {Y : Sq P n}
variable {d : Nat} {ty : TypeId} {pos : String} {aft : Array Edge} {x y : Operand} {src t e : TypeId}
theorem WL.ofStrH {l : List UInt8} (hs : P.underlying src = some .string) (ht : P.underlying t = some (.slice e)) (he : P.underlying e = some (.int .u8)) (hx : ev ρ x = some (str l)) (M : Mem w0 w L) (hd : Nat.blt d n = true)
 (kk : ∀ g sp cap w', l.length ≤ cap → Mem w0 w' (Asr.strB g e l sp :: L) → Y.S rest ((d, .slice (some ⟨g, 0, none⟩) l.length cap) :: ρ) w') :
 Y.S (⟨some d, .convert src t x, ty, pos, aft, none⟩ :: rest) ρ w := by
 have hr := run_bytes_of_string w src t e (ByteArray.mk l.toArray) hs ht he
 rw [str_size] at hr
 have e1 : bytesRow (ByteArray.mk l.toArray) (grownCap w l.length 0 e) = (bs l ++ List.replicate (grownCap w l.length 0 e - l.length) (Value.int .u8 0)).toArray := by
  unfold bytesRow bs
  rw [str_size]
  apply Array.ext'
  simp
  intro a _
  rfl
 rw [e1] at hr
 have M1 := (M.drew).alloc (.cells (bs l ++ List.replicate (grownCap w l.length 0 e - l.length) (Value.int .u8 0)).toArray e ((bs l ++ List.replicate (grownCap w l.length 0 e - l.length) (Value.int .u8 0)).toArray.size, (bs l ++ List.replicate (grownCap w l.length 0 e - l.length) (Value.int .u8 0)).toArray.size + 1))
 exact WL.valW rfl rfl hd (fun a ha => by simp only [execOp, ha.eval hx, str, Sem.run_bind, hr, Result.andThen_ok, Sem.run_pure]) (kk w.heap.size (List.replicate (grownCap w l.length 0 e - l.length) (Value.int .u8 0)) _ _ (grownCap_ge w l.length 0 e) M1)
end
section
variable {P : Program} {n : Nat} {ρ : List (Nat × Value)} {w : World} {rest : List Oper} {X : SqV P n}
variable {d : Nat} {ty : TypeId} {pos : String} {aft : Array Edge} {x lo hi : Operand} {t : TypeId}
theorem str_extract (l : List UInt8) (a b : Nat) : (ByteArray.mk l.toArray).extract a b = ByteArray.mk ((l.drop a).take (b - a)).toArray := by
 apply ByteArray.ext
 simp
/-- A text up to a place. -/
theorem WL.sliceSH {l : List UInt8} {k : IntKind} {z : Int} (b : Nat) (ht : P.underlying t = some .string) (hx : ev ρ x = some (str l)) (hh : ev ρ hi = some (.int k z)) (hz : z = (b : Int)) (hb : b ≤ l.length) (hd : Nat.blt d n = true)
 (kk : X.S rest ((d, str (l.take b)) :: ρ) w) : X.S (⟨some d, .slice t x none (some hi) none, ty, pos, aft, none⟩ :: rest) ρ w := by
 subst hz
 refine WL.val rfl rfl hd (fun f hf => ?_) kk
 have e := str_extract l 0 b
 rw [List.drop_zero, Nat.sub_zero] at e
 simp [execOp, hf.eval hx, hf.eval hh, str, Instr.sliceAt, Instr.slice, run_underlying ht, Instr.sliceBounds, run_sliceBound, str_size, hb, e]
/-- A text from a place on. -/
theorem WL.sliceSL {l : List UInt8} {k : IntKind} {z : Int} (a : Nat) (ht : P.underlying t = some .string) (hx : ev ρ x = some (str l)) (hl : ev ρ lo = some (.int k z)) (hz : z = (a : Int)) (ha : a ≤ l.length) (hd : Nat.blt d n = true)
 (kk : X.S rest ((d, str (l.drop a)) :: ρ) w) : X.S (⟨some d, .slice t x (some lo) none none, ty, pos, aft, none⟩ :: rest) ρ w := by
 subst hz
 refine WL.val rfl rfl hd (fun f hf => ?_) kk
 have e := str_extract l a l.length
 rw [List.take_of_length_le (by rw [List.length_drop]; omega)] at e
 simp [execOp, hf.eval hx, hf.eval hl, str, Instr.sliceAt, Instr.slice, run_underlying ht, Instr.sliceBounds, run_sliceBound, str_size, ha, e]
end
/-- A text by its cell. -/
theorem str_inj {a b : List UInt8} (h : str a = str b) : a = b := by
 unfold str at h
 injection h with h
 injection h with h
 simpa using h
end Go.Proofs.YtlminileigfkcaaGreat
