/-
  Four bytes' number: its bytes, and what stands at a place; walks of bin and of seawallref01.
-/
import Derived.Test.YtciadcalnindgaaProg
import Derived.Test.YtciadcalnindgaaElem
import Derived.Test.YtciadcalnindgaaDraw
namespace Go.Proofs.Ytciadcalnindgaa
open Go Go.RowKit

namespace Bin
def fixed (n : Nat) : List UInt8 := [UInt8.ofNat (n / 16777216 % 256), UInt8.ofNat (n / 65536 % 256), UInt8.ofNat (n / 256 % 256), UInt8.ofNat (n % 256)]
def be4 (a b c d : UInt8) : Nat := a.toNat * 16777216 + b.toNat * 65536 + c.toNat * 256 + d.toNat
def rdF (b : List UInt8) (at_ : Int) : Nat × Int × Int :=
  if at_ < 0 ∨ (b.length : Int) < at_ then (0, 0, 2)
  else match b.drop at_.toNat with
    | x0 :: x1 :: x2 :: x3 :: _ => (be4 x0 x1 x2 x3, at_ + 4, 0)
    | _ => (0, 0, 10)
theorem rdF_out {b : List UInt8} {at_ : Int} (h : at_ < 0 ∨ (b.length : Int) < at_) : rdF b at_ = (0, 0, 2) := if_pos h
theorem rdF_short {b : List UInt8} {at_ : Int} (h0 : 0 ≤ at_) (h1 : at_ ≤ b.length) (h : (b.length : Int) - at_ < 4) : rdF b at_ = (0, 0, 10) := by
  unfold rdF
  rw [if_neg (by omega)]
  have hl : (b.drop at_.toNat).length < 4 := by rw [List.length_drop]; omega
  split
  · rename_i x0 x1 x2 x3 r e
    rw [e] at hl
    simp only [List.length_cons] at hl
    omega
  · rfl
theorem rdF_ok {b : List UInt8} {at_ : Int} (h0 : 0 ≤ at_) (h : at_ + 4 ≤ b.length) :
    rdF b at_ = (be4 (b[at_.toNat]'(by omega)) (b[at_.toNat + 1]'(by omega)) (b[at_.toNat + 2]'(by omega)) (b[at_.toNat + 3]'(by omega)), at_ + 4, 0) := by
  unfold rdF
  rw [if_neg (by omega), List.drop_eq_getElem_cons (by omega), List.drop_eq_getElem_cons (by omega), List.drop_eq_getElem_cons (by omega), List.drop_eq_getElem_cons (by omega)]
theorem be4_lt (a b c d : UInt8) : be4 a b c d < 4294967296 := by
  have := UInt8.toNat_lt a; have := UInt8.toNat_lt b; have := UInt8.toNat_lt c; have := UInt8.toNat_lt d
  unfold be4
  omega
end Bin
open Bin

theorem fixed_bs (n : Nat) : [Value.int .u8 ((n : Int) / 16777216 % 256), Value.int .u8 ((n : Int) / 65536 % 256), Value.int .u8 ((n : Int) / 256 % 256), Value.int .u8 ((n : Int) % 256)] = bs (fixed n) := by
  rw [show ((n : Int) / 16777216 % 256) = ((n / 16777216 % 256 : Nat) : Int) by omega, show ((n : Int) / 65536 % 256) = ((n / 65536 % 256 : Nat) : Int) by omega,
    show ((n : Int) / 256 % 256) = ((n / 256 % 256 : Nat) : Int) by omega, show ((n : Int) % 256) = ((n % 256 : Nat) : Int) by omega,
    bv_ofNat (by omega), bv_ofNat (by omega), bv_ofNat (by omega), bv_ofNat (by omega)]
  rfl

theorem PutFixed_ok (n : Nat) (w : World) (_hn : n < 4294967296) : Fn Try.prog 8 [.int .u32 (n : Int)] w fun v w' =>
    ∃ A, v = .slice A 4 4 ∧ Mem w w' [Asr.own 5 1 A 4 4 (bs (fixed n))] := by
  have m0 := Mem.refl w
  refine Fn.enter Try.func8 rfl Try.ntmps8 rfl ?_
  refine W.sub [(0, _)] (.cons rfl .nil) ?_
  refine W.seq ?_
  refine W.region ?_
  refine WL.assign rfl rfl ?_
  refine WL.nil ?_
  refine WX.next ?_
  refine W.sub [(0, _)] (.cons rfl .nil) ?_
  refine W.seq ?_
  refine W.region ?_
  refine WL.move rfl rfl ?_
  refine WL.shrC rfl rfl 24 rfl rfl 16777216 rfl rfl ?_
  refine WL.conv Try.underlying24 Try.underlying5 rfl (mU8 _) rfl ?_
  refine WL.move rfl rfl ?_
  refine WL.shrC rfl rfl 16 rfl rfl 65536 rfl rfl ?_
  refine WL.conv Try.underlying24 Try.underlying5 rfl (mU8 _) rfl ?_
  refine WL.move rfl rfl ?_
  refine WL.shrC rfl rfl 8 rfl rfl 256 rfl rfl ?_
  refine WL.conv Try.underlying24 Try.underlying5 rfl (mU8 _) rfl ?_
  refine WL.move rfl rfl ?_
  refine WL.conv Try.underlying24 Try.underlying5 rfl (mU8 _) rfl ?_
  refine WL.buildS Try.elem5 (by assumption) rfl rfl rfl (by simp [Value.oneCell']) rfl rfl ?_
  intro g w1 m1
  rw [fixed_bs] at m1
  refine WL.assign rfl rfl ?_
  refine WL.nil ?_
  refine WX.next ?_
  refine W.sub [(2, _)] (.cons rfl .nil) ?_
  refine W.ret ?_
  refine WX.ret1 rfl rfl ?_
  exact ⟨_, rfl, m1⟩

def rdFv (x : Nat × Int × Int) : Value := .tuple #[.int .u32 (x.1 : Int), .int .i64 x.2.1, .int .i64 x.2.2]

namespace Bin
/-- What the first k of four bytes come to. -/
def beV (l : List UInt8) : Nat → Nat
  | 0 => 0
  | k + 1 => beV l k * 256 + (l[k]?.getD 0).toNat
theorem beV_zero (l : List UInt8) : beV l 0 = 0 := rfl
theorem beV_succ (l : List UInt8) (k : Nat) : beV l (k + 1) = beV l k * 256 + (l[k]?.getD 0).toNat := rfl
theorem beV_lt (l : List UInt8) : ∀ k, beV l k < 256 ^ k
  | 0 => by rw [beV_zero]; decide
  | k + 1 => by
    have h1 := beV_lt l k
    have h2 : (l[k]?.getD 0).toNat < 256 := UInt8.toNat_lt _
    rw [beV_succ, Nat.pow_succ]
    omega
end Bin
theorem orShl8 {v c : Nat} (hv : v < 16777216) (hc : c < 256) : bits .or .u32 ((v : Int) * 256) (c : Int) = ((v * 256 + c : Nat) : Int) := by
  have h := Nat.two_pow_add_eq_or_of_lt (i := 8) (b := c) (by omega) v
  rw [show (v : Int) * 256 = ((v * 256 : Nat) : Int) by omega, orU32 _ _ (by omega) (by omega), Nat.mul_comm v 256]
  have h' : 256 * v + c = 256 * v ||| c := h
  omega

theorem Fixed_ok (l : List UInt8) (A : Option Addr) (cap : Nat) (at_ : Int) (w : World) (h : RdB w A cap l) (hl : l.length ≤ 140737488355328) (ha : -9223372036854775808 ≤ at_ ∧ at_ ≤ 9223372036854775807) :
    Fn Try.prog 9 [.slice A l.length cap, .int .i64 at_] w fun v w' => v = rdFv (rdF l at_) ∧ w = w' := by
  refine Fn.enter Try.func9 rfl Try.ntmps9 rfl ?_
  refine W.sub [(0, _), (1, _)] (.cons rfl (.cons rfl .nil)) ?_
  refine W.seq ?_
  refine W.region ?_
  refine WL.assign rfl rfl ?_
  refine WL.assign rfl rfl ?_
  refine WL.assign rfl rfl ?_
  refine WL.nil ?_
  refine WX.next ?_
  refine W.sub [(0, _), (1, _)] (.cons rfl (.cons rfl .nil)) ?_
  refine W.seq ?_
  refine W.seq ?_
  refine W.region ?_
  refine WL.move rfl rfl ?_
  refine WL.lss rfl rfl rfl ?_
  refine WL.moveIf rfl rfl (fun c0 => ?_) (fun c0 => ?_)
  · refine WL.off rfl rfl rfl rfl ?_
    refine WL.off rfl rfl rfl rfl ?_
    refine WL.off rfl rfl rfl rfl ?_
    refine WL.off rfl rfl rfl rfl ?_
    refine WL.pickT rfl rfl rfl ?_
    refine WL.nil ?_
    refine WX.next ?_
    refine W.sub [(0, _), (1, _), (17, _)] (.cons rfl (.cons rfl (.cons rfl .nil))) ?_
    refine W.condT rfl ?_
    refine W.seq ?_
    refine W.region ?_
    refine WL.assign rfl rfl ?_
    refine WL.assign rfl rfl ?_
    refine WL.assign rfl rfl ?_
    refine WL.nil ?_
    refine WX.next ?_
    refine W.sub [(4, _), (5, _), (6, _)] (.cons rfl (.cons rfl (.cons rfl .nil))) ?_
    refine W.ret ?_
    refine WX.thenRet ?_
    refine WX.ret3 rfl rfl rfl rfl ?_
    exact ⟨by rw [rdF_out (by omega)]; rfl, rfl⟩
  · refine WL.on rfl rfl ?_
    refine WL.move rfl rfl ?_
    refine WL.on rfl rfl ?_
    refine WL.move rfl rfl ?_
    refine WL.on rfl rfl ?_
    refine WL.len Try.underlying22 rfl rfl ?_
    refine WL.on rfl rfl ?_
    refine WL.gtr rfl rfl rfl ?_
    refine WL.pickF rfl rfl rfl ?_
    refine WL.nil ?_
    refine WX.next ?_
    refine W.sub [(0, _), (1, _), (17, _)] (.cons rfl (.cons rfl (.cons rfl .nil))) ?_
    refine W.ite rfl (fun c1 => ?_) (fun c1 => ?_)
    · refine W.seq ?_
      refine W.region ?_
      refine WL.assign rfl rfl ?_
      refine WL.assign rfl rfl ?_
      refine WL.assign rfl rfl ?_
      refine WL.nil ?_
      refine WX.next ?_
      refine W.sub [(4, _), (5, _), (6, _)] (.cons rfl (.cons rfl (.cons rfl .nil))) ?_
      refine W.ret ?_
      refine WX.thenRet ?_
      refine WX.ret3 rfl rfl rfl rfl ?_
      exact ⟨by rw [rdF_out (by omega)]; rfl, rfl⟩
    · refine W.skip ?_
      refine WX.next ?_
      refine W.seq ?_
      refine W.seq ?_
      refine W.region ?_
      refine WL.move rfl rfl ?_
      refine WL.len Try.underlying22 rfl rfl ?_
      refine WL.move rfl rfl ?_
      refine WL.sub' rfl rfl (by first | exact wI64 (by omega) | rfl) rfl ?_
      refine WL.lss rfl rfl rfl ?_
      refine WL.nil ?_
      refine WX.next ?_
      refine W.sub [(0, _), (1, _), (22, _)] (.cons rfl (.cons rfl (.cons rfl .nil))) ?_
      refine W.ite rfl (fun c2 => ?_) (fun c2 => ?_)
      · refine W.seq ?_
        refine W.region ?_
        refine WL.assign rfl rfl ?_
        refine WL.assign rfl rfl ?_
        refine WL.assign rfl rfl ?_
        refine WL.nil ?_
        refine WX.next ?_
        refine W.sub [(4, _), (5, _), (6, _)] (.cons rfl (.cons rfl (.cons rfl .nil))) ?_
        refine W.ret ?_
        refine WX.thenRet ?_
        refine WX.ret3 rfl rfl rfl rfl ?_
        exact ⟨by rw [rdF_short (by omega) (by omega) (by omega)]; rfl, rfl⟩
      · refine W.skip ?_
        refine WX.next ?_
        refine W.seq ?_
        refine W.region ?_
        refine WL.assign rfl rfl ?_
        refine WL.nil ?_
        refine WX.next ?_
        refine W.sub [(0, _), (1, _), (7, _)] (.cons rfl (.cons rfl (.cons rfl .nil))) ?_
        refine W.seq ?_
        refine W.seq ?_
        refine W.region ?_
        refine WL.move rfl rfl ?_
        refine WL.move rfl rfl ?_
        refine WL.move rfl rfl ?_
        refine WL.add rfl rfl (by first | exact wI64 (by omega) | rfl) rfl ?_
        refine WL.sliceLHB Try.underlying22 Try.sizeOf5 rfl rfl rfl (by assumption) rfl (by omega) (by omega) (by omega) rfl ?_
        intro A' L hL hLl hR
        have e4 : (at_ + 4).toNat - at_.toNat = 4 := by omega
        rw [e4] at hLl hL
        have hLk : ∀ k (hk : k < L.length) (hi : at_.toNat + k < l.length), L[k] = l[at_.toNat + k] := fun k hk hi => by subst hL; simp
        refine WL.len Try.underlying22 rfl rfl ?_
        refine WL.move rfl rfl ?_
        refine WL.nil ?_
        refine WX.next ?_
        refine W.sub [(1, _), (7, _), (27, _), (28, _), (29, _)] (.cons rfl (.cons rfl (.cons rfl (.cons rfl (.cons rfl .nil))))) ?_
        refine W.block ?_
        refine W.loop (ι := Nat) (fun k => [(1, .int .i64 at_), (7, .int .u32 ((beV L k : Nat) : Int)), (27, .slice A' L.length (cap - at_.toNat)), (28, .int .i64 (L.length : Int)), (29, .int .i64 (k : Int))]) (fun k w' => w = w' ∧ k ≤ 4) (fun k => 4 - k) (0) (by (repeat' (first | exact envSub.nil | refine envSub.cons ?_ ?_)) <;> first | rfl | (refine congrArg some ?_; refine congrArg (Value.int _) ?_; first | omega | (dsimp only; omega)) | (simp; done) | (refine congrArg some ?_; dsimp only; congr 1; omega) | (simp; omega)) ⟨rfl, by omega⟩ ?_
        rintro k _ ⟨rfl, hk⟩
        refine W.sub [(1, _), (7, _), (27, _), (28, _), (29, _)] (.cons rfl (.cons rfl (.cons rfl (.cons rfl (.cons rfl .nil))))) ?_
        refine W.seq ?_
        refine W.region ?_
        refine WL.lss rfl rfl rfl ?_
        refine WL.nil ?_
        refine WX.next ?_
        refine W.sub [(1, _), (7, _), (27, _), (28, _), (29, _), (30, _)] (.cons rfl (.cons rfl (.cons rfl (.cons rfl (.cons rfl (.cons rfl .nil)))))) ?_
        refine W.seq ?_
        refine W.ite rfl (fun c3 => ?_) (fun c3 => ?_)
        · refine W.skip ?_
          refine WX.next ?_
          refine W.seq ?_
          refine W.block ?_
          refine W.seq ?_
          refine W.region ?_
          refine WL.idxB Try.underlying22 Try.sizeOf5 rfl rfl hR rfl (by omega) (by omega) rfl ?_
          intro ad8_0 had8_0
          try simp only [Int.toNat_natCast] at had8_0
          have hkL : k < L.length := by omega
          have hc8 := UInt8.toNat_lt (L[k]'hkL)
          have hv : beV L k < 16777216 := Nat.lt_of_lt_of_le (beV_lt L k) (Nat.pow_le_pow_right (by decide) (show k ≤ 3 by omega))
          have hs : beV L (k + 1) = beV L k * 256 + (L[k]'hkL).toNat := by rw [beV_succ, show L[k]?.getD 0 = L[k]'hkL by simp [hkL]]
          refine WL.load Try.isAgg5 rfl (by assumption) rfl ?_
          refine WL.assign rfl rfl ?_
          refine WL.nil ?_
          refine WX.next ?_
          refine W.sub [(1, _), (7, _), (9, _), (27, _), (28, _), (29, _)] (.cons rfl (.cons rfl (.cons rfl (.cons rfl (.cons rfl (.cons rfl .nil)))))) ?_
          refine W.region ?_
          refine WL.move rfl rfl ?_
          refine WL.shlC rfl rfl 8 rfl rfl 256 rfl (by first | exact wU32 (by omega) | exact mU32 _ | rfl) rfl ?_
          refine WL.move rfl rfl ?_
          refine WL.conv Try.underlying5 Try.underlying24 rfl (by first | exact wU32 (by omega) | exact mU32 _ | rfl) rfl ?_
          refine WL.bor rfl rfl (orShl8 hv hc8) rfl ?_
          refine WL.assign rfl rfl ?_
          refine WL.nil ?_
          refine WX.blockNormal ?_
          refine WX.next ?_
          refine W.sub [(1, _), (7, _), (27, _), (28, _), (29, _)] (.cons rfl (.cons rfl (.cons rfl (.cons rfl (.cons rfl .nil))))) ?_
          refine W.region ?_
          refine WL.add rfl rfl (by first | exact wI64 (by omega) | rfl) rfl ?_
          refine WL.move rfl rfl ?_
          refine WL.nil ?_
          refine WX.round (k + 1) (by (repeat' (first | exact envSub.nil | refine envSub.cons ?_ ?_)) <;> first | rfl | (refine congrArg some ?_; refine congrArg (Value.int _) ?_; first | omega | (dsimp only; omega)) | (simp; done) | (refine congrArg some ?_; dsimp only; congr 1; omega) | (simp; omega)) ⟨rfl, by omega⟩ (by first | omega | (dsimp only; omega))
        · refine W.exit ?_
          refine WX.thenExit ?_
          refine WX.thenExit ?_
          refine WX.blockHere ?_
          refine WX.next ?_
          refine W.seq ?_
          refine W.region ?_
          refine WL.move rfl rfl ?_
          refine WL.move rfl rfl ?_
          refine WL.add rfl rfl (by first | exact wI64 (by omega) | rfl) rfl ?_
          refine WL.assign rfl rfl ?_
          refine WL.assign rfl rfl ?_
          refine WL.assign rfl rfl ?_
          refine WL.nil ?_
          refine WX.next ?_
          refine W.sub [(4, _), (5, _), (6, _)] (.cons rfl (.cons rfl (.cons rfl .nil))) ?_
          refine W.ret ?_
          refine WX.ret3 rfl rfl rfl rfl ?_
          obtain rfl : k = 4 := by omega
          exact ⟨by
            have h0 : l[at_.toNat]'(by omega) = L[0]'(by omega) := by simpa using (hLk 0 (by omega) (by omega)).symm
            rw [rdF_ok (by omega) (by omega), h0, ← hLk 1 (by omega) (by omega), ← hLk 2 (by omega) (by omega), ← hLk 3 (by omega) (by omega)]
            have e : beV L 4 = be4 (L[0]'(by omega)) (L[1]'(by omega)) (L[2]'(by omega)) (L[3]'(by omega)) := by
              rw [beV_succ, beV_succ, beV_succ, beV_succ, beV_zero]
              simp [hLl, be4]
              omega
            rw [e]
            rfl, rfl⟩

end Go.Proofs.Ytciadcalnindgaa
