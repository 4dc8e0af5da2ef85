/-
  Walks: math/bits.Len64, bin.PutUint, seawallref01.PutUint.
-/
import Derived.Test.YtmogpoghngmnmaaProg
import Derived.Test.YtmogpoghngmnmaaElem
import Derived.Test.YtmogpoghngmnmaaBinLaw
namespace Go.Proofs.Ytmogpoghngmnmaa
open Go Go.RowKit Bin

theorem Len64_ok (m : Nat) (hm : m < 18446744073709551616) (w : World) : Fn Try.prog 55 [.int .u64 (m : Int)] w fun v w' => v = .int .i64 (bl m : Int) ∧ w = w' := by
  refine Fn.enter Try.func55 rfl Try.ntmps55 rfl ?_
  refine W.sub [(0, _)] (.cons rfl .nil) ?_
  refine W.seq ?_
  refine W.region ?_
  refine WL.assign rfl rfl ?_
  refine WL.nil ?_
  refine WX.next ?_
  refine W.sub [(0, _), (2, _)] (.cons rfl (.cons rfl .nil)) ?_
  refine W.joint (fun (j : Nat × Nat) => [(0, .int .u64 (j.1 : Int)), (2, .int .i64 (j.2 : Int))]) (fun j w' => w = w' ∧ bl m = j.2 + bl j.1 ∧ j.1 < 4294967296 ∧ j.2 ≤ 32) ?_ ?_
  · refine W.seq ?_
    refine W.region ?_
    refine WL.move rfl rfl ?_
    refine WL.geq rfl rfl rfl ?_
    refine WL.nil ?_
    refine WX.next ?_
    refine W.sub [(0, _), (2, _), (4, _)] (.cons rfl (.cons rfl (.cons rfl .nil))) ?_
    refine W.ite rfl (fun c0 => ?_) (fun c0 => ?_)
    · refine W.seq ?_
      refine W.region ?_
      refine WL.move rfl rfl ?_
      refine WL.shrC rfl rfl 32 rfl rfl 4294967296 rfl rfl ?_
      refine WL.assign rfl rfl ?_
      refine WL.nil ?_
      refine WX.next ?_
      refine W.sub [(0, _)] (.cons rfl .nil) ?_
      refine W.region ?_
      refine WL.assign rfl rfl ?_
      refine WL.nil ?_
      refine WX.join ((m / 4294967296, 32)) (by (repeat' (first | exact envSub.nil | refine envSub.cons ?_ ?_)) <;> first | rfl | (refine congrArg some ?_; refine congrArg (Value.int _) ?_; first | omega | (dsimp only; omega)) | (simp; done) | (refine congrArg some ?_; dsimp only; congr 1; omega) | (simp; omega)) ⟨rfl, bl_div (k := 32) (by omega), by omega, by omega⟩
    · refine W.skip ?_
      refine WX.join ((m, 0)) (by (repeat' (first | exact envSub.nil | refine envSub.cons ?_ ?_)) <;> first | rfl | (refine congrArg some ?_; refine congrArg (Value.int _) ?_; first | omega | (dsimp only; omega)) | (simp; done) | (refine congrArg some ?_; dsimp only; congr 1; omega) | (simp; omega)) ⟨rfl, by simp, by omega, by omega⟩
  rintro ⟨x1, s1⟩ _ ⟨rfl, hb1, hx1, hs1⟩; dsimp only at hb1 hx1 hs1
  refine W.sub [(0, _), (2, _)] (.cons rfl (.cons rfl .nil)) ?_
  refine W.joint (fun (j : Nat × Nat) => [(0, .int .u64 (j.1 : Int)), (2, .int .i64 (j.2 : Int))]) (fun j w' => w = w' ∧ bl m = j.2 + bl j.1 ∧ j.1 < 65536 ∧ j.2 ≤ 48) ?_ ?_
  · refine W.seq ?_
    refine W.region ?_
    refine WL.move rfl rfl ?_
    refine WL.geq rfl rfl rfl ?_
    refine WL.nil ?_
    refine WX.next ?_
    refine W.sub [(0, _), (2, _), (8, _)] (.cons rfl (.cons rfl (.cons rfl .nil))) ?_
    refine W.ite rfl (fun c1 => ?_) (fun c1 => ?_)
    · refine W.seq ?_
      refine W.region ?_
      refine WL.move rfl rfl ?_
      refine WL.shrC rfl rfl 16 rfl rfl 65536 rfl rfl ?_
      refine WL.assign rfl rfl ?_
      refine WL.nil ?_
      refine WX.next ?_
      refine W.sub [(0, _), (2, _)] (.cons rfl (.cons rfl .nil)) ?_
      refine W.region ?_
      refine WL.move rfl rfl ?_
      refine WL.add rfl rfl (by first | exact wI64 (by omega) | rfl) rfl ?_
      refine WL.assign rfl rfl ?_
      refine WL.nil ?_
      refine WX.join ((x1 / 65536, s1 + 16)) (by (repeat' (first | exact envSub.nil | refine envSub.cons ?_ ?_)) <;> first | rfl | (refine congrArg some ?_; refine congrArg (Value.int _) ?_; first | omega | (dsimp only; omega)) | (simp; done) | (refine congrArg some ?_; dsimp only; congr 1; omega) | (simp; omega)) ⟨rfl, by have := bl_div (k := 16) (n := x1) (by omega); simp only [Nat.reducePow] at this; dsimp only; omega, by dsimp only; omega, by dsimp only; omega⟩
    · refine W.skip ?_
      refine WX.join ((x1, s1)) (by (repeat' (first | exact envSub.nil | refine envSub.cons ?_ ?_)) <;> first | rfl | (refine congrArg some ?_; refine congrArg (Value.int _) ?_; first | omega | (dsimp only; omega)) | (simp; done) | (refine congrArg some ?_; dsimp only; congr 1; omega) | (simp; omega)) ⟨rfl, hb1, by dsimp only; omega, by dsimp only; omega⟩
  rintro ⟨x2, s2⟩ _ ⟨rfl, hb2, hx2, hs2⟩; dsimp only at hb2 hx2 hs2
  refine W.sub [(0, _), (2, _)] (.cons rfl (.cons rfl .nil)) ?_
  refine W.joint (fun (j : Nat × Nat) => [(0, .int .u64 (j.1 : Int)), (2, .int .i64 (j.2 : Int))]) (fun j w' => w = w' ∧ bl m = j.2 + bl j.1 ∧ j.1 < 256 ∧ j.2 ≤ 56) ?_ ?_
  · refine W.seq ?_
    refine W.region ?_
    refine WL.move rfl rfl ?_
    refine WL.geq rfl rfl rfl ?_
    refine WL.nil ?_
    refine WX.next ?_
    refine W.sub [(0, _), (2, _), (14, _)] (.cons rfl (.cons rfl (.cons rfl .nil))) ?_
    refine W.ite rfl (fun c2 => ?_) (fun c2 => ?_)
    · refine W.seq ?_
      refine W.region ?_
      refine WL.move rfl rfl ?_
      refine WL.shrC rfl rfl 8 rfl rfl 256 rfl rfl ?_
      refine WL.assign rfl rfl ?_
      refine WL.nil ?_
      refine WX.next ?_
      refine W.sub [(0, _), (2, _)] (.cons rfl (.cons rfl .nil)) ?_
      refine W.region ?_
      refine WL.move rfl rfl ?_
      refine WL.add rfl rfl (by first | exact wI64 (by omega) | rfl) rfl ?_
      refine WL.assign rfl rfl ?_
      refine WL.nil ?_
      refine WX.join ((x2 / 256, s2 + 8)) (by (repeat' (first | exact envSub.nil | refine envSub.cons ?_ ?_)) <;> first | rfl | (refine congrArg some ?_; refine congrArg (Value.int _) ?_; first | omega | (dsimp only; omega)) | (simp; done) | (refine congrArg some ?_; dsimp only; congr 1; omega) | (simp; omega)) ⟨rfl, by have := bl_div (k := 8) (n := x2) (by omega); simp only [Nat.reducePow] at this; dsimp only; omega, by dsimp only; omega, by dsimp only; omega⟩
    · refine W.skip ?_
      refine WX.join ((x2, s2)) (by (repeat' (first | exact envSub.nil | refine envSub.cons ?_ ?_)) <;> first | rfl | (refine congrArg some ?_; refine congrArg (Value.int _) ?_; first | omega | (dsimp only; omega)) | (simp; done) | (refine congrArg some ?_; dsimp only; congr 1; omega) | (simp; omega)) ⟨rfl, hb2, by dsimp only; omega, by dsimp only; omega⟩
  rintro ⟨x3, s3⟩ _ ⟨rfl, hb3, hx3, hs3⟩; dsimp only at hb3 hx3 hs3
  refine W.sub [(0, _), (2, _)] (.cons rfl (.cons rfl .nil)) ?_
  refine W.seq ?_
  refine W.region ?_
  refine WL.move rfl rfl ?_
  refine WL.move rfl rfl ?_
  refine WL.conv Try.underlying29 Try.underlying5 rfl (by first | exact wU8 (by omega) | exact mU8 _ | rfl) rfl ?_
  refine WL.indexS (l := len8) Try.underlying9 rfl rfl (by omega) (len8_at x3 hx3) rfl ?_
  have hb8 := bl_lt x3 hx3
  have hu8 : (UInt8.ofNat (bl x3)).toNat = bl x3 := by simp; omega
  refine WL.conv Try.underlying5 Try.underlying3 rfl (by first | exact wI64 (by omega) | rfl) rfl ?_
  refine WL.add rfl rfl (by first | exact wI64 (by omega) | rfl) rfl ?_
  refine WL.assign rfl rfl ?_
  refine WL.nil ?_
  refine WX.next ?_
  refine W.sub [(2, _)] (.cons rfl .nil) ?_
  refine W.ret ?_
  refine WX.ret1 rfl rfl ?_
  refine ⟨congrArg (Value.int _) ?_, rfl⟩
  omega

theorem and127 (a : Nat) (h : a < 18446744073709551616) : bits .and .u64 (a : Int) 127 = ((a % 128 : Nat) : Int) := by
  have := andU64 a 127 h (by omega)
  rw [show a &&& 127 = a % 128 from Nat.and_two_pow_sub_one_eq_mod a 7] at this
  exact this
theorem and127B (a : Nat) (h : a < 256) : bits .and .u8 (a : Int) 127 = ((a % 128 : Nat) : Int) := by
  have := andU8 a 127 h (by omega)
  rw [show a &&& 127 = a % 128 from Nat.and_two_pow_sub_one_eq_mod a 7] at this
  exact this
theorem or128_nat : ∀ a, a < 128 → a ||| 128 = a + 128 := by decide +kernel
theorem or128 (a : Nat) (h : a < 128) : bits .or .u8 (a : Int) 128 = ((a + 128 : Nat) : Int) := by
  have := orU8 a 128 (by omega) (by omega)
  rw [or128_nat a h] at this
  exact this

theorem put_row {m s k : Nat} (hk : k < s) : (bs (marked m k ++ List.replicate (s - k) 0)).set k (.int .u8 ((m / 128 ^ k % 128 + 128 : Nat) : Int)) = bs (marked m (k + 1) ++ List.replicate (s - (k + 1)) 0) := by
  rw [bv_ofNat (by omega), bs_set, marked_snoc, List.append_assoc]
  congr 1
  rw [List.set_append, if_neg (by rw [marked_length]; omega), marked_length, Nat.sub_self, show s - k = (s - (k + 1)) + 1 by omega, List.replicate_succ, List.set_cons_zero]
  rfl
theorem put_last {m s : Nat} (hs : 1 ≤ s) (hm : m < 18446744073709551616) (e : sz m = s) : (bs (marked m s)).set (s - 1) (.int .u8 ((m / 128 ^ (s - 1) : Nat) : Int)) = bs (put m) := by
  have h1 := top_lt s m e
  obtain ⟨s, rfl⟩ : ∃ t, s = t + 1 := ⟨s - 1, by omega⟩
  simp only [Nat.add_sub_cancel] at *
  rw [bv_ofNat (by omega), bs_set, marked_snoc, put_eq hm, e]
  congr 1
  rw [List.set_append, if_neg (by rw [marked_length]; omega), marked_length, Nat.sub_self, List.set_cons_zero]
  simp only [Nat.add_sub_cancel]
theorem marked_last {m s : Nat} (hs : 1 ≤ s) (hm : m / 128 ^ (s - 1) < 128) : (bs (marked m s))[s - 1]? = some (.int .u8 ((m / 128 ^ (s - 1) + 128 : Nat) : Int)) := by
  obtain ⟨s, rfl⟩ : ∃ t, s = t + 1 := ⟨s - 1, by omega⟩
  simp only [Nat.add_sub_cancel] at *
  rw [marked_snoc, bs_append, List.getElem?_append_right (by rw [bs_length, marked_length]; omega), bs_length, marked_length, Nat.sub_self]
  rw [Nat.mod_eq_of_lt hm, bv_ofNat (by omega)]
  rfl

theorem PutUint_ok (m : Nat) (hm : m < 18446744073709551616) (w : World) : Fn Try.prog 36 [.int .u64 (m : Int)] w fun v w' =>
    ∃ A cap, v = .slice A (put m).length cap ∧ Mem w w' [Asr.own 5 1 A (put m).length cap (bs (put m))] := by
  refine Fn.enter Try.func36 rfl Try.ntmps36 rfl ?_
  refine W.sub [(0, _)] (.cons rfl .nil) ?_
  have m0 : Mem w w [] := Mem.refl w
  have hsz : (sz m : Int) = max 1 (((bl m : Int) + 6) / 7) := by unfold sz; omega
  have hs10 := sz_le hm
  have hs1 := sz_pos m
  have hbl : bl m ≤ 70 := by unfold sz at hs10; omega
  refine W.seq ?_
  refine W.region ?_
  refine WL.assign rfl rfl ?_
  refine WL.nil ?_
  refine WX.next ?_
  refine W.sub [(0, _)] (.cons rfl .nil) ?_
  refine W.seq ?_
  refine W.region ?_
  refine WL.move rfl rfl ?_
  refine WL.call Try.call55 rfl (Len64_ok m hm w) rfl ?_
  rintro _ _ ⟨rfl, rfl⟩
  refine WL.add rfl rfl (by first | exact wI64 (by omega) | rfl) rfl ?_
  refine WL.quo rfl rfl (by omega) (quoI64 (by omega)) rfl ?_
  refine WL.max rfl rfl rfl ?_
  refine WL.assign rfl rfl ?_
  rw [← hsz]
  refine WL.nil ?_
  refine WX.next ?_
  refine W.sub [(0, _), (3, _)] (.cons rfl (.cons rfl .nil)) ?_
  refine W.seq ?_
  refine W.region ?_
  refine WL.move rfl rfl ?_
  skip
  refine WL.make Try.elem5 Try.zeroValue5 (by assumption) rfl rfl (by omega) rfl (by omega) (by omega) rfl ?_
  intro g w1 m1
  simp only [Int.toNat_natCast] at m1 ⊢
  refine WL.assign rfl rfl ?_
  refine WL.nil ?_
  refine WX.next ?_
  refine W.sub [(0, _), (3, _), (4, _)] (.cons rfl (.cons rfl (.cons rfl .nil))) ?_
  refine W.seq ?_
  refine W.seq ?_
  refine W.region ?_
  refine WL.move rfl rfl ?_
  refine WL.len Try.underlying32 rfl rfl ?_
  refine WL.move rfl rfl ?_
  refine WL.nil ?_
  refine WX.next ?_
  refine W.sub [(0, _), (3, _), (4, _), (14, _), (15, _)] (.cons rfl (.cons rfl (.cons rfl (.cons rfl (.cons rfl .nil))))) ?_
  refine W.block ?_
  refine W.loop (ι := Nat) (fun k => [(0, .int .u64 ((m / 128 ^ k : Nat) : Int)), (3, .int .i64 (sz m : Int)), (4, .slice (some ⟨g, 0, none⟩) (sz m) (sz m)), (14, .int .i64 (sz m : Int)), (15, .int .i64 (k : Int))]) (fun k w' => k ≤ sz m ∧ Mem w w' [Asr.row g 5 (bs (marked m k ++ List.replicate (sz m - k) 0))]) (fun k => sz m - k) (0) (by (repeat' (first | exact envSub.nil | refine envSub.cons ?_ ?_)) <;> first | rfl | (refine congrArg some ?_; refine congrArg (Value.int _) ?_; first | omega | (dsimp only; omega)) | (simp; done) | (refine congrArg some ?_; dsimp only; congr 1; omega) | (simp; omega)) ⟨by omega, by simpa [marked, bs, bv] using m1⟩ ?_
  rintro k w2 ⟨hk, m2⟩
  have hmk : m / 128 ^ k ≤ m := Nat.div_le_self ..
  refine W.sub [(0, _), (3, _), (4, _), (14, _), (15, _)] (.cons rfl (.cons rfl (.cons rfl (.cons rfl (.cons rfl .nil))))) ?_
  refine W.seq ?_
  refine W.region ?_
  refine WL.lss rfl rfl rfl ?_
  refine WL.nil ?_
  refine WX.next ?_
  refine W.sub [(0, _), (3, _), (4, _), (14, _), (15, _), (16, _)] (.cons rfl (.cons rfl (.cons rfl (.cons rfl (.cons rfl (.cons rfl .nil)))))) ?_
  refine W.seq ?_
  refine W.ite rfl (fun c0 => ?_) (fun c0 => ?_)
  · have hk' : k < sz m := by omega
    refine W.skip ?_
    refine WX.next ?_
    refine W.seq ?_
    refine W.block ?_
    refine W.seq ?_
    refine W.region ?_
    refine WL.move rfl rfl ?_
    refine WL.assign rfl rfl ?_
    refine WL.nil ?_
    refine WX.next ?_
    refine W.sub [(0, _), (3, _), (4, _), (5, _), (14, _), (15, _)] (.cons rfl (.cons rfl (.cons rfl (.cons rfl (.cons rfl (.cons rfl .nil)))))) ?_
    refine W.seq ?_
    refine W.region ?_
    refine WL.move rfl rfl ?_
    refine WL.move rfl rfl ?_
    refine WL.move rfl rfl ?_
    refine WL.band rfl rfl (and127 _ (by omega)) rfl ?_
    refine WL.conv Try.underlying29 Try.underlying5 rfl (by first | exact wU8 (by omega) | exact mU8 _ | rfl) rfl ?_
    refine WL.bor rfl rfl (or128 _ (by omega)) rfl ?_
    refine WL.idxAt (o' := k) Try.underlying32 Try.sizeOf5 rfl rfl (by omega) (by omega) (by omega) rfl ?_
    refine WL.store m2 Try.sizeOf5 rfl rfl rfl (by simp [bs, marked_length]; omega) ?_
    intro w3 m3
    rw [put_row hk'] at m3
    have hdiv : m / 128 ^ (k + 1) = m / 128 ^ k / 128 := by rw [Nat.pow_succ, Nat.div_div_eq_div_mul]
    refine WL.nil ?_
    refine WX.next ?_
    refine W.sub [(0, _), (3, _), (4, _), (14, _), (15, _)] (.cons rfl (.cons rfl (.cons rfl (.cons rfl (.cons rfl .nil))))) ?_
    refine W.region ?_
    refine WL.move rfl rfl ?_
    refine WL.shrC rfl rfl 7 rfl rfl 128 rfl rfl ?_
    refine WL.assign rfl rfl ?_
    refine WL.nil ?_
    refine WX.blockNormal ?_
    refine WX.next ?_
    refine W.sub [(0, _), (3, _), (4, _), (14, _), (15, _)] (.cons rfl (.cons rfl (.cons rfl (.cons rfl (.cons rfl .nil))))) ?_
    refine W.region ?_
    refine WL.add rfl rfl (by first | exact wI64 (by omega) | rfl) rfl ?_
    refine WL.move rfl rfl ?_
    refine WL.nil ?_
    refine WX.round (k + 1) (by (repeat' (first | exact envSub.nil | refine envSub.cons ?_ ?_)) <;> first | rfl | (refine congrArg some ?_; refine congrArg (Value.int _) ?_; first | omega | (dsimp only; omega)) | (simp; done) | (refine congrArg some ?_; dsimp only; congr 1; omega) | (simp; omega)) ⟨by omega, m3⟩ (by first | omega | (dsimp only; omega))
  · have hk' : k = sz m := by omega
    refine W.exit ?_
    refine WX.thenExit ?_
    refine WX.thenExit ?_
    refine WX.blockHere ?_
    refine WX.next ?_
    refine W.seq ?_
    refine W.region ?_
    refine WL.move rfl rfl ?_
    refine WL.move rfl rfl ?_
    refine WL.sub' rfl rfl (by first | exact wI64 (by omega) | rfl) rfl ?_
    subst hk'
    simp only [Nat.sub_self, List.replicate_zero, List.append_nil] at m2
    refine WL.idxAt (o' := sz m - 1) Try.underlying32 Try.sizeOf5 rfl rfl (by omega) (by omega) (by omega) rfl ?_
    refine WL.load Try.isAgg5 rfl ((m2.cell _).trans (marked_last hs1 (top_lt _ _ rfl))) rfl ?_
    refine WL.band rfl rfl (and127B _ (by have := top_lt _ m rfl; omega)) rfl ?_
    refine WL.idxAt (o' := sz m - 1) Try.underlying32 Try.sizeOf5 rfl rfl (by omega) (by omega) (by omega) rfl ?_
    refine WL.store m2 Try.sizeOf5 rfl rfl rfl (by simp [bs, marked_length]; omega) ?_
    intro w3 m3
    have htop := top_lt _ m rfl
    rw [show (m / 128 ^ (sz m - 1) + 128) % 128 = m / 128 ^ (sz m - 1) by rw [Nat.add_mod_right, Nat.mod_eq_of_lt htop], put_last hs1 hm rfl] at m3
    refine WL.nil ?_
    refine WX.next ?_
    refine W.sub [(4, _)] (.cons rfl .nil) ?_
    refine W.seq ?_
    refine W.region ?_
    refine WL.move rfl rfl ?_
    refine WL.assign rfl rfl ?_
    refine WL.nil ?_
    refine WX.next ?_
    refine W.sub [(2, _)] (.cons rfl .nil) ?_
    refine W.ret ?_
    refine WX.ret1 rfl rfl ?_
    refine ⟨some ⟨g, 0, none⟩, (put m).length, by rw [put_length hm], ?_⟩
    exact m3.rowOwn [] (by simp) (by simp [bs_length]) (by simp [bs_length]) (by rw [put_length hm]; simp only [maxLen]; omega) (Nat.le_refl _)
end Go.Proofs.Ytmogpoghngmnmaa
