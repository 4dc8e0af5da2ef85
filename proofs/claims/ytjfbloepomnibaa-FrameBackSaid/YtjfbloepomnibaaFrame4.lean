/-
  Walks: the next place of a frame, in both.
-/
import Derived.Test.YtjfbloepomnibaaFrame3
namespace Go.Proofs.Ytjfbloepomnibaa
open Go Go.RowKit Crc Bin

/-- From n bytes ahead of the end on: the next place of a frame. -/
def seekN (l : List UInt8) : Nat → Int
  | 0 => l.length
  | n + 1 => if (getG l ((l.length : Int) - ((n + 1 : Nat) : Int))).2.2.2 = 0 then (l.length : Int) - ((n + 1 : Nat) : Int) else seekN l n
def seekG (l : List UInt8) (at_ : Int) : Int := seekN l ((l.length : Int) - max at_ 0).toNat
theorem seekN_end {l : List UInt8} {i : Int} (h : (l.length : Int) ≤ i) : seekN l ((l.length : Int) - i).toNat = l.length := by
  rw [show ((l.length : Int) - i).toNat = 0 by omega]
  rfl
theorem seekN_here {l : List UInt8} {i : Int} (h : i < l.length) (he : (getG l i).2.2.2 = 0) : seekN l ((l.length : Int) - i).toNat = i := by
  obtain ⟨n, hn⟩ : ∃ n, ((l.length : Int) - i).toNat = n + 1 := ⟨((l.length : Int) - i).toNat - 1, by omega⟩
  rw [hn, seekN, show (l.length : Int) - ((n + 1 : Nat) : Int) = i by omega, if_pos he]
theorem seekN_next {l : List UInt8} {i : Int} (h : i < l.length) (he : (getG l i).2.2.2 ≠ 0) : seekN l ((l.length : Int) - i).toNat = seekN l ((l.length : Int) - (i + 1)).toNat := by
  obtain ⟨n, hn⟩ : ∃ n, ((l.length : Int) - i).toNat = n + 1 := ⟨((l.length : Int) - i).toNat - 1, by omega⟩
  rw [hn, seekN, show (l.length : Int) - ((n + 1 : Nat) : Int) = i by omega, if_neg he, show ((l.length : Int) - (i + 1)).toNat = n by omega]

theorem Seek_ok (l : List UInt8) (A : Option Addr) (cap : Nat) (at_ : Int) (w : World) (h : RdB w A cap l) (hl : l.length ≤ 140737488351232) (ha : -9223372036854775808 ≤ at_ ∧ at_ ≤ 9223372036854775807) :
    Fn Try.prog 22 [.slice A l.length cap, .int .i64 at_] w fun v w' => v = .int .i64 (seekG l at_) ∧ Mem w w' [] := by
  refine Fn.enter Try.func22 rfl Try.ntmps22 rfl ?_
  refine W.sub [(0, _), (1, _)] (.cons rfl (.cons rfl .nil)) ?_
  refine W.seq ?_
  refine W.region ?_
  refine WL.assign rfl rfl ?_
  refine WL.nil ?_
  refine WX.next ?_
  refine W.sub [(0, _), (1, _)] (.cons rfl (.cons rfl .nil)) ?_
  refine W.seq ?_
  refine W.seq ?_
  refine W.region ?_
  refine WL.move rfl rfl ?_
  refine WL.max rfl rfl rfl ?_
  refine WL.assign rfl rfl ?_
  refine WL.nil ?_
  refine WX.next ?_
  refine W.sub [(0, _), (1, _)] (.cons rfl (.cons rfl .nil)) ?_
  refine W.block ?_
  refine W.loop (ι := Int) (fun i => [(0, .slice A l.length cap), (1, .int .i64 i)]) (fun i w' => 0 ≤ i ∧ i ≤ 9223372036854775807 ∧ seekN l ((l.length : Int) - i).toNat = seekG l at_ ∧ Mem w w' []) (fun i => ((l.length : Int) - i).toNat) (max at_ 0) (by (repeat' (first | exact envSub.nil | refine envSub.cons ?_ ?_)) <;> first | rfl | (refine congrArg some ?_; refine congrArg (Value.int _) ?_; first | omega | (dsimp only; omega)) | (simp; done) | (refine congrArg some ?_; dsimp only; congr 1; omega) | (simp; omega)) ⟨by omega, by omega, rfl, Mem.refl w⟩ ?_
  rintro i w1 ⟨hi0, hi1, hs, m1⟩
  refine W.sub [(0, _), (1, _)] (.cons rfl (.cons rfl .nil)) ?_
  refine W.seq ?_
  refine W.seq ?_
  refine W.region ?_
  refine WL.move rfl rfl ?_
  refine WL.move rfl rfl ?_
  refine WL.len Try.underlying22 rfl rfl ?_
  refine WL.lss rfl rfl rfl ?_
  refine WL.nil ?_
  refine WX.next ?_
  refine W.sub [(0, _), (1, _), (13, _)] (.cons rfl (.cons rfl (.cons rfl .nil))) ?_
  refine W.ite rfl (fun c0 => ?_) (fun c0 => ?_)
  · obtain ⟨k, b, to, e, hg⟩ : ∃ k b to e, getG l i = (k, b, to, e) := ⟨_, _, _, _, rfl⟩
    refine W.skip ?_
    refine WX.next ?_
    refine W.seq ?_
    refine W.block ?_
    refine W.seq ?_
    refine W.region ?_
    refine WL.move rfl rfl ?_
    refine WL.move rfl rfl ?_
    refine WL.call Try.call20 rfl (Get_ok l A cap i w1 (h.mem m1) hl (by omega)) rfl ?_
    rintro _ w2 hgot
    rw [hg] at hgot
    obtain ⟨A2, cap2, rfl, m2⟩ := hgot
    refine WL.move rfl rfl ?_
    refine WL.extract rfl rfl rfl ?_
    refine WL.extract rfl rfl rfl ?_
    refine WL.extract rfl rfl rfl ?_
    refine WL.alloc Try.zeroValue38 (m1.call m2) rfl ?_
    intro g3 w3 m3
    refine WL.storeW m3 Try.sizeOf38 rfl rfl (by simp [Value.cells, Value.oneCell']) rfl rfl ?_
    intro w4 m4
    refine WL.assign rfl rfl ?_
    refine WL.assign rfl rfl ?_
    refine WL.nil ?_
    refine WX.next ?_
    refine W.sub [(0, _), (1, _), (7, _)] (.cons rfl (.cons rfl (.cons rfl .nil))) ?_
    refine W.seq ?_
    refine W.region ?_
    refine WL.move rfl rfl ?_
    refine WL.eqI rfl rfl rfl ?_
    refine WL.nil ?_
    refine WX.next ?_
    refine W.sub [(0, _), (1, _), (24, _)] (.cons rfl (.cons rfl (.cons rfl .nil))) ?_
    refine W.ite rfl (fun c1 => ?_) (fun c1 => ?_)
    · refine W.seq ?_
      refine W.region ?_
      refine WL.move rfl rfl ?_
      refine WL.assign rfl rfl ?_
      refine WL.nil ?_
      refine WX.next ?_
      refine W.sub [(4, _)] (.cons rfl .nil) ?_
      refine W.ret ?_
      refine WX.blockRet ?_
      refine WX.thenRet ?_
      refine WX.thenRet ?_
      refine WX.blockRet ?_
      refine WX.thenRet ?_
      refine WX.ret1 rfl rfl ?_
      exact ⟨by rw [← hs, seekN_here (by omega) (by rw [hg]; exact c1)], m4.nil⟩
    · have hn := seekN_next (l := l) (i := i) (by omega) (by rw [hg]; exact c1)
      refine W.skip ?_
      refine WX.blockNormal ?_
      refine WX.next ?_
      refine W.region ?_
      refine WL.move rfl rfl ?_
      refine WL.add rfl rfl (by first | exact wI64 (by omega) | rfl) rfl ?_
      refine WL.assign rfl rfl ?_
      refine WL.nil ?_
      refine WX.round (i + 1) (by (repeat' (first | exact envSub.nil | refine envSub.cons ?_ ?_)) <;> first | rfl | (refine congrArg some ?_; refine congrArg (Value.int _) ?_; first | omega | (dsimp only; omega)) | (simp; done) | (refine congrArg some ?_; dsimp only; congr 1; omega) | (simp; omega)) ⟨by omega, by omega, by rw [← hn, hs], m4.nil⟩ (by first | omega | (dsimp only; omega))
  · refine W.exit ?_
    refine WX.thenExit ?_
    refine WX.thenExit ?_
    refine WX.blockHere ?_
    refine WX.next ?_
    refine W.seq ?_
    refine W.region ?_
    refine WL.move rfl rfl ?_
    refine WL.len Try.underlying22 rfl rfl ?_
    refine WL.assign rfl rfl ?_
    refine WL.nil ?_
    refine WX.next ?_
    refine W.sub [(4, _)] (.cons rfl .nil) ?_
    refine W.ret ?_
    refine WX.ret1 rfl rfl ?_
    exact ⟨by rw [← hs, seekN_end (by omega)], m1⟩

theorem refSeek_ok (l : List UInt8) (A : Option Addr) (cap : Nat) (at_ : Int) (w : World) (h : RdB w A cap l) (hl : l.length ≤ 140737488351232) (ha : -9223372036854775808 ≤ at_ ∧ at_ ≤ 9223372036854775807) :
    Fn Try.prog 23 [.slice A l.length cap, .int .i64 at_] w fun v w' => v = .int .i64 (seekG l at_) ∧ Mem w w' [] := by
  refine Fn.enter Try.func23 rfl Try.ntmps23 rfl ?_
  refine W.sub [(0, _), (1, _)] (.cons rfl (.cons rfl .nil)) ?_
  refine W.seq ?_
  refine W.region ?_
  refine WL.assign rfl rfl ?_
  refine WL.nil ?_
  refine WX.next ?_
  refine W.sub [(0, _), (1, _)] (.cons rfl (.cons rfl .nil)) ?_
  refine W.joint (fun (a : Int) => [(0, .slice A l.length cap), (1, .int .i64 a)]) (fun a w' => a = max at_ 0 ∧ w = w') ?_ ?_
  · refine W.seq ?_
    refine W.region ?_
    refine WL.move rfl rfl ?_
    refine WL.lss rfl rfl rfl ?_
    refine WL.nil ?_
    refine WX.next ?_
    refine W.sub [(0, _), (1, _), (10, _)] (.cons rfl (.cons rfl (.cons rfl .nil))) ?_
    refine W.ite rfl (fun c0 => ?_) (fun c0 => ?_)
    · refine W.region ?_
      refine WL.assign rfl rfl ?_
      refine WL.nil ?_
      refine WX.join (0) (by (repeat' (first | exact envSub.nil | refine envSub.cons ?_ ?_)) <;> first | rfl | (refine congrArg some ?_; refine congrArg (Value.int _) ?_; first | omega | (dsimp only; omega)) | (simp; done) | (refine congrArg some ?_; dsimp only; congr 1; omega) | (simp; omega)) ⟨by omega, rfl⟩
    · refine W.skip ?_
      refine WX.join (at_) (by (repeat' (first | exact envSub.nil | refine envSub.cons ?_ ?_)) <;> first | rfl | (refine congrArg some ?_; refine congrArg (Value.int _) ?_; first | omega | (dsimp only; omega)) | (simp; done) | (refine congrArg some ?_; dsimp only; congr 1; omega) | (simp; omega)) ⟨by omega, rfl⟩
  rintro a _ ⟨ha0, rfl⟩
  refine W.sub [(0, _), (1, _)] (.cons rfl (.cons rfl .nil)) ?_
  refine W.seq ?_
  refine W.seq ?_
  refine W.region ?_
  refine WL.move rfl rfl ?_
  refine WL.assign rfl rfl ?_
  refine WL.nil ?_
  refine WX.next ?_
  refine W.sub [(0, _), (5, _)] (.cons rfl (.cons rfl .nil)) ?_
  refine W.block ?_
  refine W.loop (ι := Int) (fun i => [(0, .slice A l.length cap), (5, .int .i64 i)]) (fun i w' => 0 ≤ i ∧ i ≤ 9223372036854775807 ∧ seekN l ((l.length : Int) - i).toNat = seekG l at_ ∧ Mem w w' []) (fun i => ((l.length : Int) - i).toNat) (a) (by (repeat' (first | exact envSub.nil | refine envSub.cons ?_ ?_)) <;> first | rfl | (refine congrArg some ?_; refine congrArg (Value.int _) ?_; first | omega | (dsimp only; omega)) | (simp; done) | (refine congrArg some ?_; dsimp only; congr 1; omega) | (simp; omega)) ⟨by omega, by omega, by rw [ha0]; rfl, Mem.refl w⟩ ?_
  rintro i w1 ⟨hi0, hi1, hs, m1⟩
  refine W.sub [(0, _), (5, _)] (.cons rfl (.cons rfl .nil)) ?_
  refine W.seq ?_
  refine W.seq ?_
  refine W.region ?_
  refine WL.move rfl rfl ?_
  refine WL.move rfl rfl ?_
  refine WL.len Try.underlying22 rfl rfl ?_
  refine WL.lss rfl rfl rfl ?_
  refine WL.nil ?_
  refine WX.next ?_
  refine W.sub [(0, _), (5, _), (15, _)] (.cons rfl (.cons rfl (.cons rfl .nil))) ?_
  refine W.ite rfl (fun c1 => ?_) (fun c1 => ?_)
  · obtain ⟨k, b, to, e, hg⟩ : ∃ k b to e, getG l i = (k, b, to, e) := ⟨_, _, _, _, rfl⟩
    refine W.skip ?_
    refine WX.next ?_
    refine W.seq ?_
    refine W.block ?_
    refine W.seq ?_
    refine W.region ?_
    refine WL.move rfl rfl ?_
    refine WL.move rfl rfl ?_
    refine WL.call Try.call21 rfl (refGet_ok l A cap i w1 (h.mem m1) hl (by omega)) rfl ?_
    rintro _ w2 hgot
    rw [hg] at hgot
    obtain ⟨A2, cap2, rfl, m2⟩ := hgot
    refine WL.move rfl rfl ?_
    refine WL.extract rfl rfl rfl ?_
    refine WL.extract rfl rfl rfl ?_
    refine WL.extract rfl rfl rfl ?_
    refine WL.alloc Try.zeroValue38 (m1.call m2) rfl ?_
    intro g3 w3 m3
    refine WL.storeW m3 Try.sizeOf38 rfl rfl (by simp [Value.cells, Value.oneCell']) rfl rfl ?_
    intro w4 m4
    refine WL.assign rfl rfl ?_
    refine WL.assign rfl rfl ?_
    refine WL.nil ?_
    refine WX.next ?_
    refine W.sub [(0, _), (5, _), (8, _)] (.cons rfl (.cons rfl (.cons rfl .nil))) ?_
    refine W.seq ?_
    refine W.region ?_
    refine WL.move rfl rfl ?_
    refine WL.eqI rfl rfl rfl ?_
    refine WL.nil ?_
    refine WX.next ?_
    refine W.sub [(0, _), (5, _), (26, _)] (.cons rfl (.cons rfl (.cons rfl .nil))) ?_
    refine W.ite rfl (fun c2 => ?_) (fun c2 => ?_)
    · refine W.seq ?_
      refine W.region ?_
      refine WL.move rfl rfl ?_
      refine WL.assign rfl rfl ?_
      refine WL.nil ?_
      refine WX.next ?_
      refine W.sub [(4, _)] (.cons rfl .nil) ?_
      refine W.ret ?_
      refine WX.blockRet ?_
      refine WX.thenRet ?_
      refine WX.thenRet ?_
      refine WX.blockRet ?_
      refine WX.thenRet ?_
      refine WX.ret1 rfl rfl ?_
      exact ⟨by rw [← hs, seekN_here (by omega) (by rw [hg]; exact c2)], m4.nil⟩
    · have hn := seekN_next (l := l) (i := i) (by omega) (by rw [hg]; exact c2)
      refine W.skip ?_
      refine WX.blockNormal ?_
      refine WX.next ?_
      refine W.region ?_
      refine WL.move rfl rfl ?_
      refine WL.add rfl rfl (by first | exact wI64 (by omega) | rfl) rfl ?_
      refine WL.assign rfl rfl ?_
      refine WL.nil ?_
      refine WX.round (i + 1) (by (repeat' (first | exact envSub.nil | refine envSub.cons ?_ ?_)) <;> first | rfl | (refine congrArg some ?_; refine congrArg (Value.int _) ?_; first | omega | (dsimp only; omega)) | (simp; done) | (refine congrArg some ?_; dsimp only; congr 1; omega) | (simp; omega)) ⟨by omega, by omega, by rw [← hn, hs], m4.nil⟩ (by first | omega | (dsimp only; omega))
  · refine W.exit ?_
    refine WX.thenExit ?_
    refine WX.thenExit ?_
    refine WX.blockHere ?_
    refine WX.next ?_
    refine W.seq ?_
    refine W.region ?_
    refine WL.move rfl rfl ?_
    refine WL.len Try.underlying22 rfl rfl ?_
    refine WL.assign rfl rfl ?_
    refine WL.nil ?_
    refine WX.next ?_
    refine W.sub [(4, _)] (.cons rfl .nil) ?_
    refine W.ret ?_
    refine WX.ret1 rfl rfl ?_
    exact ⟨by rw [← hs, seekN_end (by omega)], m1⟩
end Go.Proofs.Ytjfbloepomnibaa
