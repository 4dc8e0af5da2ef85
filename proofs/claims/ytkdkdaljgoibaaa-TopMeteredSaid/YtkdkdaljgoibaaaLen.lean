/-
  Walk: math/bits.Len64, and Len.
-/
import Derived.Test.YtkdkdaljgoibaaaBinLaw
import Derived.Test.YtkdkdaljgoibaaaSlices
namespace Go.Proofs.Ytkdkdaljgoibaaa
open Go Go.RowKit Bin

theorem Len64_ok (m : Nat) (hm : m < 18446744073709551616) (w : World) : Fn Try.prog 50 [.int .u64 (m : Int)] w fun v w' => v = .int .i64 (bl m : Int) ∧ w = w' := by
  refine Fn.enter Try.func50 rfl Try.ntmps50 rfl ?_
  refine W.sub [(0, _)] (.cons rfl .nil) ?_
  refine W.seq ?_
  refine W.region ?_
  refine WL.assign rfl rfl ?_
  refine WL.nil ?_
  refine WX.next ?_
  refine W.sub [(0, _), (2, _)] (.cons rfl (.cons rfl .nil)) ?_
  refine W.joint (fun (j : Nat × Nat) => [(0, .int .u64 (j.1 : Int)), (2, .int .i64 (j.2 : Int))]) (fun j w' => w = w' ∧ bl m = j.2 + bl j.1 ∧ j.1 < 4294967296 ∧ j.2 ≤ 32) ?_ ?_
  · refine W.seq ?_
    refine W.region ?_
    refine WL.move rfl rfl ?_
    refine WL.geq rfl rfl rfl ?_
    refine WL.nil ?_
    refine WX.next ?_
    refine W.sub [(0, _), (2, _), (4, _)] (.cons rfl (.cons rfl (.cons rfl .nil))) ?_
    refine W.ite rfl (fun c0 => ?_) (fun c0 => ?_)
    · refine W.seq ?_
      refine W.region ?_
      refine WL.move rfl rfl ?_
      refine WL.shrC rfl rfl 32 rfl rfl 4294967296 rfl rfl ?_
      refine WL.assign rfl rfl ?_
      refine WL.nil ?_
      refine WX.next ?_
      refine W.sub [(0, _)] (.cons rfl .nil) ?_
      refine W.region ?_
      refine WL.assign rfl rfl ?_
      refine WL.nil ?_
      refine WX.join ((m / 4294967296, 32)) (by (repeat' (first | exact envSub.nil | refine envSub.cons ?_ ?_)) <;> first | rfl | (refine congrArg some ?_; refine congrArg (Value.int _) ?_; first | omega | (dsimp only; omega)) | (simp; done) | (refine congrArg some ?_; dsimp only; congr 1; omega) | (simp; omega)) ⟨rfl, bl_div (k := 32) (by omega), by omega, by omega⟩
    · refine W.skip ?_
      refine WX.join ((m, 0)) (by (repeat' (first | exact envSub.nil | refine envSub.cons ?_ ?_)) <;> first | rfl | (refine congrArg some ?_; refine congrArg (Value.int _) ?_; first | omega | (dsimp only; omega)) | (simp; done) | (refine congrArg some ?_; dsimp only; congr 1; omega) | (simp; omega)) ⟨rfl, by simp, by omega, by omega⟩
  rintro ⟨x1, s1⟩ _ ⟨rfl, hb1, hx1, hs1⟩; dsimp only at hb1 hx1 hs1
  refine W.sub [(0, _), (2, _)] (.cons rfl (.cons rfl .nil)) ?_
  refine W.joint (fun (j : Nat × Nat) => [(0, .int .u64 (j.1 : Int)), (2, .int .i64 (j.2 : Int))]) (fun j w' => w = w' ∧ bl m = j.2 + bl j.1 ∧ j.1 < 65536 ∧ j.2 ≤ 48) ?_ ?_
  · refine W.seq ?_
    refine W.region ?_
    refine WL.move rfl rfl ?_
    refine WL.geq rfl rfl rfl ?_
    refine WL.nil ?_
    refine WX.next ?_
    refine W.sub [(0, _), (2, _), (8, _)] (.cons rfl (.cons rfl (.cons rfl .nil))) ?_
    refine W.ite rfl (fun c1 => ?_) (fun c1 => ?_)
    · refine W.seq ?_
      refine W.region ?_
      refine WL.move rfl rfl ?_
      refine WL.shrC rfl rfl 16 rfl rfl 65536 rfl rfl ?_
      refine WL.assign rfl rfl ?_
      refine WL.nil ?_
      refine WX.next ?_
      refine W.sub [(0, _), (2, _)] (.cons rfl (.cons rfl .nil)) ?_
      refine W.region ?_
      refine WL.move rfl rfl ?_
      refine WL.add rfl rfl (by first | exact wI64 (by omega) | rfl) rfl ?_
      refine WL.assign rfl rfl ?_
      refine WL.nil ?_
      refine WX.join ((x1 / 65536, s1 + 16)) (by (repeat' (first | exact envSub.nil | refine envSub.cons ?_ ?_)) <;> first | rfl | (refine congrArg some ?_; refine congrArg (Value.int _) ?_; first | omega | (dsimp only; omega)) | (simp; done) | (refine congrArg some ?_; dsimp only; congr 1; omega) | (simp; omega)) ⟨rfl, by have := bl_div (k := 16) (n := x1) (by omega); simp only [Nat.reducePow] at this; dsimp only; omega, by dsimp only; omega, by dsimp only; omega⟩
    · refine W.skip ?_
      refine WX.join ((x1, s1)) (by (repeat' (first | exact envSub.nil | refine envSub.cons ?_ ?_)) <;> first | rfl | (refine congrArg some ?_; refine congrArg (Value.int _) ?_; first | omega | (dsimp only; omega)) | (simp; done) | (refine congrArg some ?_; dsimp only; congr 1; omega) | (simp; omega)) ⟨rfl, hb1, by dsimp only; omega, by dsimp only; omega⟩
  rintro ⟨x2, s2⟩ _ ⟨rfl, hb2, hx2, hs2⟩; dsimp only at hb2 hx2 hs2
  refine W.sub [(0, _), (2, _)] (.cons rfl (.cons rfl .nil)) ?_
  refine W.joint (fun (j : Nat × Nat) => [(0, .int .u64 (j.1 : Int)), (2, .int .i64 (j.2 : Int))]) (fun j w' => w = w' ∧ bl m = j.2 + bl j.1 ∧ j.1 < 256 ∧ j.2 ≤ 56) ?_ ?_
  · refine W.seq ?_
    refine W.region ?_
    refine WL.move rfl rfl ?_
    refine WL.geq rfl rfl rfl ?_
    refine WL.nil ?_
    refine WX.next ?_
    refine W.sub [(0, _), (2, _), (14, _)] (.cons rfl (.cons rfl (.cons rfl .nil))) ?_
    refine W.ite rfl (fun c2 => ?_) (fun c2 => ?_)
    · refine W.seq ?_
      refine W.region ?_
      refine WL.move rfl rfl ?_
      refine WL.shrC rfl rfl 8 rfl rfl 256 rfl rfl ?_
      refine WL.assign rfl rfl ?_
      refine WL.nil ?_
      refine WX.next ?_
      refine W.sub [(0, _), (2, _)] (.cons rfl (.cons rfl .nil)) ?_
      refine W.region ?_
      refine WL.move rfl rfl ?_
      refine WL.add rfl rfl (by first | exact wI64 (by omega) | rfl) rfl ?_
      refine WL.assign rfl rfl ?_
      refine WL.nil ?_
      refine WX.join ((x2 / 256, s2 + 8)) (by (repeat' (first | exact envSub.nil | refine envSub.cons ?_ ?_)) <;> first | rfl | (refine congrArg some ?_; refine congrArg (Value.int _) ?_; first | omega | (dsimp only; omega)) | (simp; done) | (refine congrArg some ?_; dsimp only; congr 1; omega) | (simp; omega)) ⟨rfl, by have := bl_div (k := 8) (n := x2) (by omega); simp only [Nat.reducePow] at this; dsimp only; omega, by dsimp only; omega, by dsimp only; omega⟩
    · refine W.skip ?_
      refine WX.join ((x2, s2)) (by (repeat' (first | exact envSub.nil | refine envSub.cons ?_ ?_)) <;> first | rfl | (refine congrArg some ?_; refine congrArg (Value.int _) ?_; first | omega | (dsimp only; omega)) | (simp; done) | (refine congrArg some ?_; dsimp only; congr 1; omega) | (simp; omega)) ⟨rfl, hb2, by dsimp only; omega, by dsimp only; omega⟩
  rintro ⟨x3, s3⟩ _ ⟨rfl, hb3, hx3, hs3⟩; dsimp only at hb3 hx3 hs3
  refine W.sub [(0, _), (2, _)] (.cons rfl (.cons rfl .nil)) ?_
  refine W.seq ?_
  refine W.region ?_
  refine WL.move rfl rfl ?_
  refine WL.move rfl rfl ?_
  refine WL.conv Try.underlying62 Try.underlying5 rfl (by first | exact wU8 (by omega) | exact mU8 _ | rfl) rfl ?_
  refine WL.indexS (l := len8) Try.underlying9 rfl rfl (by omega) (len8_at x3 hx3) rfl ?_
  have hb8 := bl_lt x3 hx3
  have hu8 : (UInt8.ofNat (bl x3)).toNat = bl x3 := by simp; omega
  refine WL.conv Try.underlying5 Try.underlying3 rfl (by first | exact wI64 (by omega) | rfl) rfl ?_
  refine WL.add rfl rfl (by first | exact wI64 (by omega) | rfl) rfl ?_
  refine WL.assign rfl rfl ?_
  refine WL.nil ?_
  refine WX.next ?_
  refine W.sub [(2, _)] (.cons rfl .nil) ?_
  refine W.ret ?_
  refine WX.ret1 rfl rfl ?_
  refine ⟨congrArg (Value.int _) ?_, rfl⟩
  omega
theorem Len_ok (m : Nat) (hm : m < 18446744073709551616) (w : World) : Fn Try.prog 36 [.int .u64 (m : Int)] w fun v w' => v = .int .i64 (bl m : Int) ∧ w' = w := by
  have M := Mem.refl w
  refine Fn.enter Try.func36 rfl Try.ntmps36 rfl ?_
  refine W.sub [(0, _)] (.cons rfl .nil) ?_
  refine W.seq ?_
  refine W.region ?_
  refine WL.assign rfl rfl ?_
  refine WL.nil ?_
  refine WX.next ?_
  refine W.sub [(0, _)] (.cons rfl .nil) ?_
  refine W.seq ?_
  refine W.condF rfl ?_
  refine W.skip ?_
  refine WX.next ?_
  refine W.seq ?_
  refine W.region ?_
  refine WL.move rfl rfl ?_
  refine WL.call Try.call50 rfl (Len64_ok m hm w) rfl ?_
  rintro _ _ ⟨rfl, rfl⟩
  refine WL.assign rfl rfl ?_
  refine WL.nil ?_
  refine WX.next ?_
  refine W.sub [(2, _)] (.cons rfl .nil) ?_
  refine W.ret ?_
  refine WX.ret1 rfl rfl ?_
  exact ⟨rfl, rfl⟩
end Go.Proofs.Ytkdkdaljgoibaaa
