/-
  Walks: four bytes' number; texts: bin and seawallref01; what all statements ask of lists of bytes.
-/
import Derived.Test.YtmogpoghngmnmaaBin3
namespace Go.Proofs.Ytmogpoghngmnmaa
open Go Go.RowKit Bin

namespace Bin
def rdB (b : List UInt8) (at_ most : Int) : List UInt8 × Int × Int :=
  if (rdU b at_).2.2 ≠ 0 then ([], 0, (rdU b at_).2.2)
  else if ((rdU b at_).1 : Int) > max most 0 then ([], 0, 3)
  else if ((rdU b at_).1 : Int) > (b.length : Int) - (rdU b at_).2.1 then ([], 0, 10)
  else ((b.drop (rdU b at_).2.1.toNat).take (rdU b at_).1, (rdU b at_).2.1 + (rdU b at_).1, 0)
theorem rdU_to {b : List UInt8} {at_ : Int} (h : (rdU b at_).2.2 = 0) : 0 ≤ at_ ∧ at_ < (rdU b at_).2.1 ∧ (rdU b at_).2.1 ≤ b.length ∧ (rdU b at_).2.1 ≤ at_ + 10 := by
  rcases rdU_cases b at_ with ⟨n, k, e, h0, hg⟩ | ⟨e', e⟩
  · have h1 := getF_lt 10 0 _ n k rfl hg
    rw [List.length_drop] at h1
    rw [e]
    dsimp only
    omega
  · rw [e] at h
    dsimp only at h
    omega
end Bin

theorem Bytes_ok (l : List UInt8) (A : Option Addr) (cap : Nat) (at_ most : Int) (w : World) (h : RdB w A cap l) (hl : l.length ≤ 140737488355328) (ha : -9223372036854775808 ≤ at_ ∧ at_ ≤ 9223372036854775807)
    (hmo : -9223372036854775808 ≤ most ∧ most ≤ 9223372036854775807) : Fn Try.prog 57 [.slice A l.length cap, .int .i64 at_, .int .i64 most] w fun v w' =>
    ∃ A' cap', v = .tuple #[.slice A' (rdB l at_ most).1.length cap', .int .i64 (rdB l at_ most).2.1, .int .i64 (rdB l at_ most).2.2] ∧ Mem w w' [Asr.own 5 1 A' (rdB l at_ most).1.length cap' (bs (rdB l at_ most).1)] := by
  have hlt := rdU_lt l at_
  have m0 := Mem.refl w
  refine Fn.enter Try.func57 rfl Try.ntmps57 rfl ?_
  refine W.sub [(0, _), (1, _), (2, _)] (.cons rfl (.cons rfl (.cons rfl .nil))) ?_
  refine W.seq ?_
  refine W.region ?_
  refine WL.assign rfl rfl ?_
  refine WL.assign rfl rfl ?_
  refine WL.assign rfl rfl ?_
  refine WL.nil ?_
  refine WX.next ?_
  refine W.sub [(0, _), (1, _), (2, _)] (.cons rfl (.cons rfl (.cons rfl .nil))) ?_
  refine W.seq ?_
  refine W.region ?_
  refine WL.move rfl rfl ?_
  refine WL.move rfl rfl ?_
  refine WL.call Try.call56 rfl (Uint_ok l A cap at_ w h hl ha) rfl ?_
  rintro _ _ ⟨rfl, rfl⟩
  refine WL.move rfl rfl ?_
  refine WL.extract rfl rfl rfl ?_
  refine WL.extract rfl rfl rfl ?_
  refine WL.extract rfl rfl rfl ?_
  refine WL.assign rfl rfl ?_
  refine WL.assign rfl rfl ?_
  refine WL.assign rfl rfl ?_
  refine WL.nil ?_
  refine WX.next ?_
  refine W.sub [(0, _), (2, _), (9, _), (10, _), (11, _)] (.cons rfl (.cons rfl (.cons rfl (.cons rfl (.cons rfl .nil))))) ?_
  refine W.seq ?_
  refine W.block ?_
  refine W.seq ?_
  refine W.region ?_
  refine WL.move rfl rfl ?_
  refine WL.neI rfl rfl rfl ?_
  refine WL.assign rfl rfl ?_
  refine WL.nil ?_
  refine WX.next ?_
  refine W.sub [(0, _), (2, _), (9, _), (10, _), (11, _), (20, _)] (.cons rfl (.cons rfl (.cons rfl (.cons rfl (.cons rfl (.cons rfl .nil)))))) ?_
  refine W.ite rfl (fun c0 => ?_) (fun c0 => ?_)
  · refine W.seq ?_
    refine W.region ?_
    refine WL.move rfl rfl ?_
    refine WL.assign rfl rfl ?_
    refine WL.assign rfl rfl ?_
    refine WL.assign rfl rfl ?_
    refine WL.nil ?_
    refine WX.next ?_
    refine W.sub [(6, _), (7, _), (8, _)] (.cons rfl (.cons rfl (.cons rfl .nil))) ?_
    refine W.ret ?_
    refine WX.blockRet ?_
    refine WX.thenRet ?_
    refine WX.ret3 rfl rfl rfl rfl ?_
    unfold rdB
    rw [if_pos c0]
    exact ⟨none, 0, rfl, m0.nilOwn _ _⟩
  · refine W.seq ?_
    refine W.region ?_
    refine WL.move rfl rfl ?_
    refine WL.move rfl rfl ?_
    refine WL.max rfl rfl rfl ?_
    refine WL.conv Try.underlying3 Try.underlying29 rfl (by first | exact wU64 (by omega) | exact mU64 _ | rfl) rfl ?_
    refine WL.gtr rfl rfl rfl ?_
    refine WL.assign rfl rfl ?_
    refine WL.nil ?_
    refine WX.next ?_
    refine W.sub [(0, _), (9, _), (10, _), (24, _)] (.cons rfl (.cons rfl (.cons rfl (.cons rfl .nil)))) ?_
    refine W.ite rfl (fun c1 => ?_) (fun c1 => ?_)
    · have hc0 : (rdU l at_).2.2 = 0 := by simpa using c0
      refine W.seq ?_
      refine W.region ?_
      refine WL.assign rfl rfl ?_
      refine WL.assign rfl rfl ?_
      refine WL.assign rfl rfl ?_
      refine WL.nil ?_
      refine WX.next ?_
      refine W.sub [(6, _), (7, _), (8, _)] (.cons rfl (.cons rfl (.cons rfl .nil))) ?_
      refine W.ret ?_
      refine WX.blockRet ?_
      refine WX.thenRet ?_
      refine WX.ret3 rfl rfl rfl rfl ?_
      unfold rdB
      rw [if_neg c0, if_pos c1]
      exact ⟨none, 0, rfl, m0.nilOwn _ _⟩
    · have hc0 : (rdU l at_).2.2 = 0 := by simpa using c0
      obtain ⟨ht1, ht2, ht3, ht4⟩ := rdU_to hc0
      refine W.seq ?_
      refine W.region ?_
      refine WL.move rfl rfl ?_
      refine WL.move rfl rfl ?_
      refine WL.len Try.underlying32 rfl rfl ?_
      refine WL.move rfl rfl ?_
      refine WL.sub' rfl rfl (by first | exact wI64 (by omega) | rfl) rfl ?_
      refine WL.conv Try.underlying3 Try.underlying29 rfl (by first | exact wU64 (by omega) | exact mU64 _ | rfl) rfl ?_
      refine WL.gtr rfl rfl rfl ?_
      refine WL.assign rfl rfl ?_
      refine WL.nil ?_
      refine WX.next ?_
      refine W.sub [(0, _), (9, _), (10, _), (30, _)] (.cons rfl (.cons rfl (.cons rfl (.cons rfl .nil)))) ?_
      refine W.ite rfl (fun c2 => ?_) (fun c2 => ?_)
      · refine W.seq ?_
        refine W.region ?_
        refine WL.assign rfl rfl ?_
        refine WL.assign rfl rfl ?_
        refine WL.assign rfl rfl ?_
        refine WL.nil ?_
        refine WX.next ?_
        refine W.sub [(6, _), (7, _), (8, _)] (.cons rfl (.cons rfl (.cons rfl .nil))) ?_
        refine W.ret ?_
        refine WX.blockRet ?_
        refine WX.thenRet ?_
        refine WX.ret3 rfl rfl rfl rfl ?_
        unfold rdB
        rw [if_neg c0, if_neg c1, if_pos c2]
        exact ⟨none, 0, rfl, m0.nilOwn _ _⟩
      · refine W.skip ?_
        refine WX.blockNormal ?_
        refine WX.next ?_
        refine W.seq ?_
        refine W.region ?_
        refine WL.move rfl rfl ?_
        refine WL.move rfl rfl ?_
        refine WL.conv Try.underlying29 Try.underlying3 rfl (by first | exact wI64 (by omega) | rfl) rfl ?_
        refine WL.add rfl rfl (by first | exact wI64 (by omega) | rfl) rfl ?_
        refine WL.assign rfl rfl ?_
        refine WL.nil ?_
        refine WX.next ?_
        refine W.sub [(0, _), (10, _), (12, _)] (.cons rfl (.cons rfl (.cons rfl .nil))) ?_
        refine W.seq ?_
        refine W.region ?_
        refine WL.buildS Try.elem5 (by assumption) rfl rfl rfl (by simp [Value.oneCell']) rfl rfl ?_
        intro g w1 m1
        refine WL.move rfl rfl ?_
        refine WL.move rfl rfl ?_
        refine WL.move rfl rfl ?_
        refine WL.sliceLHB Try.underlying32 Try.sizeOf5 rfl rfl rfl (h.mem (m1.call (Mem.refl _) |>.nil)) rfl (by omega) (by omega) (by omega) rfl ?_
        intro A' L hL hLl hR
        refine WL.appendB (l := []) Try.elem5 rfl rfl m1 hR rfl rfl (by simp; omega) rfl ?_
        intro A2 cap2 w2 m2
        refine WL.move rfl rfl ?_
        refine WL.assign rfl rfl ?_
        refine WL.assign rfl rfl ?_
        refine WL.assign rfl rfl ?_
        refine WL.nil ?_
        refine WX.next ?_
        refine W.sub [(6, _), (7, _), (8, _)] (.cons rfl (.cons rfl (.cons rfl .nil))) ?_
        refine W.ret ?_
        refine WX.ret3 rfl rfl rfl rfl ?_
        have hL' : L = (l.drop (rdU l at_).2.1.toNat).take (rdU l at_).1 := by
          rw [hL]; congr 1; omega
        unfold rdB
        rw [if_neg c0, if_neg c1, if_neg c2]
        dsimp only
        rw [← hL']
        exact ⟨A2, cap2, rfl, m2⟩

theorem refBytes_ok (l : List UInt8) (A : Option Addr) (cap : Nat) (at_ most : Int) (w : World) (h : RdB w A cap l) (hl : l.length ≤ 140737488355328) (ha : -9223372036854775808 ≤ at_ ∧ at_ ≤ 9223372036854775807)
    (hmo : -9223372036854775808 ≤ most ∧ most ≤ 9223372036854775807) : Fn Try.prog 59 [.slice A l.length cap, .int .i64 at_, .int .i64 most] w fun v w' =>
    ∃ A' cap', v = .tuple #[.slice A' (rdB l at_ most).1.length cap', .int .i64 (rdB l at_ most).2.1, .int .i64 (rdB l at_ most).2.2] ∧ Mem w w' [Asr.own 5 1 A' (rdB l at_ most).1.length cap' (bs (rdB l at_ most).1)] := by
  have hlt := rdU_lt l at_
  have m0 := Mem.refl w
  refine Fn.enter Try.func59 rfl Try.ntmps59 rfl ?_
  refine W.sub [(0, _), (1, _), (2, _)] (.cons rfl (.cons rfl (.cons rfl .nil))) ?_
  refine W.seq ?_
  refine W.region ?_
  refine WL.assign rfl rfl ?_
  refine WL.assign rfl rfl ?_
  refine WL.assign rfl rfl ?_
  refine WL.nil ?_
  refine WX.next ?_
  refine W.sub [(0, _), (1, _), (2, _)] (.cons rfl (.cons rfl (.cons rfl .nil))) ?_
  refine W.seq ?_
  refine W.region ?_
  refine WL.move rfl rfl ?_
  refine WL.move rfl rfl ?_
  refine WL.call Try.call58 rfl (refUint_ok l A cap at_ w h hl ha) rfl ?_
  rintro _ _ ⟨rfl, rfl⟩
  refine WL.move rfl rfl ?_
  refine WL.extract rfl rfl rfl ?_
  refine WL.extract rfl rfl rfl ?_
  refine WL.extract rfl rfl rfl ?_
  refine WL.assign rfl rfl ?_
  refine WL.assign rfl rfl ?_
  refine WL.assign rfl rfl ?_
  refine WL.nil ?_
  refine WX.next ?_
  refine W.sub [(0, _), (2, _), (9, _), (10, _), (11, _)] (.cons rfl (.cons rfl (.cons rfl (.cons rfl (.cons rfl .nil))))) ?_
  refine W.seq ?_
  refine W.seq ?_
  refine W.region ?_
  refine WL.move rfl rfl ?_
  refine WL.neI rfl rfl rfl ?_
  refine WL.nil ?_
  refine WX.next ?_
  refine W.sub [(0, _), (2, _), (9, _), (10, _), (11, _), (21, _)] (.cons rfl (.cons rfl (.cons rfl (.cons rfl (.cons rfl (.cons rfl .nil)))))) ?_
  refine W.ite rfl (fun c0 => ?_) (fun c0 => ?_)
  · refine W.seq ?_
    refine W.region ?_
    refine WL.move rfl rfl ?_
    refine WL.assign rfl rfl ?_
    refine WL.assign rfl rfl ?_
    refine WL.assign rfl rfl ?_
    refine WL.nil ?_
    refine WX.next ?_
    refine W.sub [(6, _), (7, _), (8, _)] (.cons rfl (.cons rfl (.cons rfl .nil))) ?_
    refine W.ret ?_
    refine WX.thenRet ?_
    refine WX.ret3 rfl rfl rfl rfl ?_
    unfold rdB
    rw [if_pos c0]
    exact ⟨none, 0, rfl, m0.nilOwn _ _⟩
  · have hc0 : (rdU l at_).2.2 = 0 := by simpa using c0
    obtain ⟨ht1, ht2, ht3, ht4⟩ := rdU_to hc0
    refine W.skip ?_
    refine WX.next ?_
    refine W.joint (fun (mo : Int) => [(0, .slice A l.length cap), (2, .int .i64 mo), (9, .int .u64 ((rdU l at_).1 : Int)), (10, .int .i64 (rdU l at_).2.1)]) (fun mo w' => w = w' ∧ mo = max most 0) ?_ ?_
    · refine W.seq ?_
      refine W.region ?_
      refine WL.move rfl rfl ?_
      refine WL.lss rfl rfl rfl ?_
      refine WL.nil ?_
      refine WX.next ?_
      refine W.sub [(0, _), (2, _), (9, _), (10, _), (24, _)] (.cons rfl (.cons rfl (.cons rfl (.cons rfl (.cons rfl .nil))))) ?_
      refine W.ite rfl (fun c1 => ?_) (fun c1 => ?_)
      · refine W.region ?_
        refine WL.assign rfl rfl ?_
        refine WL.nil ?_
        refine WX.join (max most 0) (by (repeat' (first | exact envSub.nil | refine envSub.cons ?_ ?_)) <;> first | rfl | (refine congrArg some ?_; refine congrArg (Value.int _) ?_; first | omega | (dsimp only; omega)) | (simp; done) | (refine congrArg some ?_; dsimp only; congr 1; omega) | (simp; omega)) ⟨rfl, rfl⟩
      · refine W.skip ?_
        refine WX.join (max most 0) (by (repeat' (first | exact envSub.nil | refine envSub.cons ?_ ?_)) <;> first | rfl | (refine congrArg some ?_; refine congrArg (Value.int _) ?_; first | omega | (dsimp only; omega)) | (simp; done) | (refine congrArg some ?_; dsimp only; congr 1; omega) | (simp; omega)) ⟨rfl, rfl⟩
    rintro mo _ ⟨rfl, hmm⟩
    refine W.sub [(0, _), (2, _), (9, _), (10, _)] (.cons rfl (.cons rfl (.cons rfl (.cons rfl .nil)))) ?_
    refine W.seq ?_
    refine W.block ?_
    refine W.seq ?_
    refine W.region ?_
    refine WL.move rfl rfl ?_
    refine WL.move rfl rfl ?_
    refine WL.conv Try.underlying3 Try.underlying29 rfl (by first | exact wU64 (by omega) | exact mU64 _ | rfl) rfl ?_
    refine WL.gtr rfl rfl rfl ?_
    refine WL.assign rfl rfl ?_
    refine WL.nil ?_
    refine WX.next ?_
    refine W.sub [(0, _), (9, _), (10, _), (25, _)] (.cons rfl (.cons rfl (.cons rfl (.cons rfl .nil)))) ?_
    refine W.ite rfl (fun c2 => ?_) (fun c2 => ?_)
    · refine W.seq ?_
      refine W.region ?_
      refine WL.assign rfl rfl ?_
      refine WL.assign rfl rfl ?_
      refine WL.assign rfl rfl ?_
      refine WL.nil ?_
      refine WX.next ?_
      refine W.sub [(6, _), (7, _), (8, _)] (.cons rfl (.cons rfl (.cons rfl .nil))) ?_
      refine W.ret ?_
      refine WX.blockRet ?_
      refine WX.thenRet ?_
      refine WX.ret3 rfl rfl rfl rfl ?_
      unfold rdB
      rw [if_neg c0, if_pos (by omega)]
      exact ⟨none, 0, rfl, m0.nilOwn _ _⟩
    · refine W.seq ?_
      refine W.region ?_
      refine WL.move rfl rfl ?_
      refine WL.move rfl rfl ?_
      refine WL.len Try.underlying32 rfl rfl ?_
      refine WL.move rfl rfl ?_
      refine WL.sub' rfl rfl (by first | exact wI64 (by omega) | rfl) rfl ?_
      refine WL.conv Try.underlying3 Try.underlying29 rfl (by first | exact wU64 (by omega) | exact mU64 _ | rfl) rfl ?_
      refine WL.gtr rfl rfl rfl ?_
      refine WL.assign rfl rfl ?_
      refine WL.nil ?_
      refine WX.next ?_
      refine W.sub [(0, _), (9, _), (10, _), (30, _)] (.cons rfl (.cons rfl (.cons rfl (.cons rfl .nil)))) ?_
      refine W.ite rfl (fun c3 => ?_) (fun c3 => ?_)
      · refine W.seq ?_
        refine W.region ?_
        refine WL.assign rfl rfl ?_
        refine WL.assign rfl rfl ?_
        refine WL.assign rfl rfl ?_
        refine WL.nil ?_
        refine WX.next ?_
        refine W.sub [(6, _), (7, _), (8, _)] (.cons rfl (.cons rfl (.cons rfl .nil))) ?_
        refine W.ret ?_
        refine WX.blockRet ?_
        refine WX.thenRet ?_
        refine WX.ret3 rfl rfl rfl rfl ?_
        unfold rdB
        rw [if_neg c0, if_neg (by omega), if_pos c3]
        exact ⟨none, 0, rfl, m0.nilOwn _ _⟩
      · refine W.skip ?_
        refine WX.blockNormal ?_
        refine WX.next ?_
        refine W.seq ?_
        refine W.region ?_
        refine WL.assign rfl rfl ?_
        refine WL.nil ?_
        refine WX.next ?_
        refine W.sub [(0, _), (9, _), (10, _), (12, _)] (.cons rfl (.cons rfl (.cons rfl (.cons rfl .nil)))) ?_
        refine W.seq ?_
        refine W.region ?_
        refine WL.move rfl rfl ?_
        refine WL.move rfl rfl ?_
        refine WL.move rfl rfl ?_
        refine WL.move rfl rfl ?_
        refine WL.move rfl rfl ?_
        refine WL.conv Try.underlying29 Try.underlying3 rfl (by first | exact wI64 (by omega) | rfl) rfl ?_
        refine WL.add rfl rfl (by first | exact wI64 (by omega) | rfl) rfl ?_
        refine WL.sliceLHB Try.underlying32 Try.sizeOf5 rfl rfl rfl h rfl (by omega) (by omega) (by omega) rfl ?_
        intro A' L hL hLl hR
        refine WL.appendB (l := []) Try.elem5 rfl rfl (m0.nilOwn _ _) hR rfl rfl (by simp; omega) rfl ?_
        intro A2 cap2 w2 m2
        refine WL.assign rfl rfl ?_
        refine WL.nil ?_
        refine WX.next ?_
        refine W.sub [(9, _), (10, _), (12, _)] (.cons rfl (.cons rfl (.cons rfl .nil))) ?_
        refine W.seq ?_
        refine W.region ?_
        refine WL.move rfl rfl ?_
        refine WL.move rfl rfl ?_
        refine WL.move rfl rfl ?_
        refine WL.conv Try.underlying29 Try.underlying3 rfl (by first | exact wI64 (by omega) | rfl) rfl ?_
        refine WL.add rfl rfl (by first | exact wI64 (by omega) | rfl) rfl ?_
        refine WL.assign rfl rfl ?_
        refine WL.assign rfl rfl ?_
        refine WL.assign rfl rfl ?_
        refine WL.nil ?_
        refine WX.next ?_
        refine W.sub [(6, _), (7, _), (8, _)] (.cons rfl (.cons rfl (.cons rfl .nil))) ?_
        refine W.ret ?_
        refine WX.ret3 rfl rfl rfl rfl ?_
        have hL' : L = (l.drop (rdU l at_).2.1.toNat).take (rdU l at_).1 := by
          rw [hL]; congr 1; omega
        unfold rdB
        rw [if_neg c0, if_neg (by omega), if_neg c3]
        dsimp only
        rw [← hL']
        exact ⟨A2, cap2, rfl, m2⟩

theorem put_len {n : Nat} (h : n < 18446744073709551616) : (put n).length ≤ 10 := by
  rw [put_length h]
  exact sz_le h

theorem PutBytes_ok (l : List UInt8) (A : Option Addr) (cap : Nat) (w : World) (h : RdB w A cap l) (hl : l.length ≤ 140737488351232) :
    Fn Try.prog 37 [.slice A l.length cap] w fun v w' => ∃ A' cap', v = .slice A' (put l.length ++ l).length cap' ∧ Mem w w' [Asr.own 5 1 A' (put l.length ++ l).length cap' (bs (put l.length ++ l))] := by
  have hp := put_len (n := l.length) (by omega)
  refine Fn.enter Try.func37 rfl Try.ntmps37 rfl ?_
  refine W.sub [(0, _)] (.cons rfl .nil) ?_
  refine W.seq ?_
  refine W.region ?_
  refine WL.assign rfl rfl ?_
  refine WL.nil ?_
  refine WX.next ?_
  refine W.sub [(0, _)] (.cons rfl .nil) ?_
  refine W.seq ?_
  refine W.region ?_
  refine WL.move rfl rfl ?_
  refine WL.len Try.underlying32 rfl rfl ?_
  refine WL.conv Try.underlying3 Try.underlying29 rfl (by first | exact wU64 (by omega) | exact mU64 _ | rfl) rfl ?_
  refine WL.call Try.call36 rfl (PutUint_ok l.length (by omega) w) rfl ?_
  rintro _ w1 ⟨A1, cap1, rfl, m1⟩
  refine WL.move rfl rfl ?_
  refine WL.appendB Try.elem5 rfl rfl m1 (h.mem m1) rfl rfl (by omega) rfl ?_
  intro A1_5 cap1_5 w1_5 m1_5
  refine WL.assign rfl rfl ?_
  refine WL.nil ?_
  refine WX.next ?_
  refine W.sub [(2, _)] (.cons rfl .nil) ?_
  refine W.ret ?_
  refine WX.ret1 rfl rfl ?_
  exact ⟨_, _, rfl, m1_5⟩

theorem refPutBytes_ok (l : List UInt8) (A : Option Addr) (cap : Nat) (w : World) (h : RdB w A cap l) (hl : l.length ≤ 140737488351232) :
    Fn Try.prog 47 [.slice A l.length cap] w fun v w' => ∃ A' cap', v = .slice A' (put l.length ++ l).length cap' ∧ Mem w w' [Asr.own 5 1 A' (put l.length ++ l).length cap' (bs (put l.length ++ l))] := by
  have hp := put_len (n := l.length) (by omega)
  refine Fn.enter Try.func47 rfl Try.ntmps47 rfl ?_
  refine W.sub [(0, _)] (.cons rfl .nil) ?_
  refine W.seq ?_
  refine W.region ?_
  refine WL.assign rfl rfl ?_
  refine WL.nil ?_
  refine WX.next ?_
  refine W.sub [(0, _)] (.cons rfl .nil) ?_
  refine W.seq ?_
  refine W.region ?_
  refine WL.move rfl rfl ?_
  refine WL.len Try.underlying32 rfl rfl ?_
  refine WL.conv Try.underlying3 Try.underlying29 rfl (by first | exact wU64 (by omega) | exact mU64 _ | rfl) rfl ?_
  refine WL.call Try.call46 rfl (refPutUint_ok l.length (by omega) w) rfl ?_
  rintro _ w1 ⟨A1, cap1, rfl, m1⟩
  refine WL.move rfl rfl ?_
  refine WL.appendB Try.elem5 rfl rfl m1 (h.mem m1) rfl rfl (by omega) rfl ?_
  intro A1_5 cap1_5 w1_5 m1_5
  refine WL.assign rfl rfl ?_
  refine WL.nil ?_
  refine WX.next ?_
  refine W.sub [(2, _)] (.cons rfl .nil) ?_
  refine W.ret ?_
  refine WX.ret1 rfl rfl ?_
  exact ⟨_, _, rfl, m1_5⟩
end Go.Proofs.Ytmogpoghngmnmaa
