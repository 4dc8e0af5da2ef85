/-
  Walks: a frame's bytes, in both; and what stands at a place, in plain terms.
-/
import Derived.Test.YtciadcalnindgaaCrc
import Derived.Test.YtciadcalnindgaaStruct
namespace Go.Proofs.Ytciadcalnindgaa
open Go Go.RowKit Crc Bin

def headG (k : UInt8) (l : List UInt8) : List UInt8 := [167, k] ++ fixed l.length ++ l
def putG (k : UInt8) (l : List UInt8) : List UInt8 := if 1024 < l.length then [] else headG k l ++ fixed (crc (headG k l))
def putE (l : List UInt8) : Int := if 1024 < l.length then 3 else 0
theorem headG_length (k : UInt8) (l : List UInt8) : (headG k l).length = l.length + 6 := by simp [headG, fixed]
theorem putG_length {k : UInt8} {l : List UInt8} (h : l.length ≤ 1024) : (putG k l).length = l.length + 10 := by
  unfold putG
  rw [if_neg (by omega), List.length_append, headG_length]
  simp [fixed]

theorem Put_ok (k : UInt8) (l : List UInt8) (A : Option Addr) (cap : Nat) (w : World) (h : RdB w A cap l) :
    Fn Try.prog 6 [.int .u8 (k.toNat : Int), .slice A l.length cap] w fun v w' => ∃ A' cap', v = .tuple #[.slice A' (putG k l).length cap', .int .i64 (putE l)] ∧ Mem w w' [Asr.own 5 1 A' (putG k l).length cap' (bs (putG k l))] := by
  have m0 := Mem.refl w
  have hk8 := UInt8.toNat_lt k
  refine Fn.enter Try.func6 rfl Try.ntmps6 rfl ?_
  refine W.sub [(0, _), (1, _)] (.cons rfl (.cons rfl .nil)) ?_
  refine W.seq ?_
  refine W.region ?_
  refine WL.assign rfl rfl ?_
  refine WL.assign rfl rfl ?_
  refine WL.nil ?_
  refine WX.next ?_
  refine W.sub [(0, _), (1, _)] (.cons rfl (.cons rfl .nil)) ?_
  refine W.seq ?_
  refine W.seq ?_
  refine W.region ?_
  refine WL.move rfl rfl ?_
  refine WL.len Try.underlying22 rfl rfl ?_
  refine WL.gtr rfl rfl rfl ?_
  refine WL.nil ?_
  refine WX.next ?_
  refine W.sub [(0, _), (1, _), (9, _)] (.cons rfl (.cons rfl (.cons rfl .nil))) ?_
  refine W.ite rfl (fun c0 => ?_) (fun c0 => ?_)
  · refine W.seq ?_
    refine W.region ?_
    refine WL.assign rfl rfl ?_
    refine WL.assign rfl rfl ?_
    refine WL.nil ?_
    refine WX.next ?_
    refine W.sub [(4, _), (5, _)] (.cons rfl (.cons rfl .nil)) ?_
    refine W.ret ?_
    refine WX.thenRet ?_
    refine WX.ret2 rfl rfl rfl ?_
    skip
    have e1 : putG k l = [] := by unfold putG; rw [if_pos (by omega)]
    have e2 : putE l = 3 := by unfold putE; rw [if_pos (by omega)]
    rw [e1, e2]
    exact ⟨none, 0, rfl, m0.nilOwn _ _⟩
  · refine W.skip ?_
    refine WX.next ?_
    refine W.seq ?_
    refine W.region ?_
    refine WL.move rfl rfl ?_
    refine WL.buildS Try.elem5 m0 rfl rfl rfl (by simp [Value.oneCell']) rfl rfl ?_
    intro g1 w1 m1
    refine WL.move rfl rfl ?_
    refine WL.len Try.underlying22 rfl rfl ?_
    refine WL.conv Try.underlying3 Try.underlying24 rfl (by first | exact wU32 (by omega) | exact mU32 _ | rfl) rfl ?_
    refine WL.call Try.call8 rfl (PutFixed_ok l.length w1 (by omega)) rfl ?_
    rintro _ w2 ⟨A2, rfl, m2⟩
    refine WL.appendB (l := [167, k]) (news := fixed l.length) Try.elem5 rfl rfl (m1.call m2).f1 (m2.rdOwnB (l := fixed l.length)) rfl rfl (by simp [fixed]) rfl ?_
    intro A3 cap3 w3 m3
    refine WL.assign rfl rfl ?_
    refine WL.nil ?_
    refine WX.next ?_
    refine W.sub [(1, _), (6, _)] (.cons rfl (.cons rfl .nil)) ?_
    refine W.seq ?_
    refine W.region ?_
    refine WL.move rfl rfl ?_
    refine WL.move rfl rfl ?_
    refine WL.appendB Try.elem5 rfl rfl m3.drop1 (h.mem m3) rfl rfl (by simp [fixed]; omega) rfl ?_
    intro A4 cap4 w4 m4
    have hl4 := headG_length k l
    rw [show [167, k] ++ fixed l.length ++ l = headG k l from rfl] at m4 ⊢
    refine WL.assign rfl rfl ?_
    refine WL.nil ?_
    refine WX.next ?_
    refine W.sub [(6, _)] (.cons rfl .nil) ?_
    refine W.seq ?_
    refine W.region ?_
    refine WL.move rfl rfl ?_
    refine WL.move rfl rfl ?_
    refine WL.buildS Try.elem22 m4 rfl rfl rfl (by simp [Value.oneCell']) rfl rfl ?_
    intro g5 w5 m5
    refine WL.call Try.call5 rfl (Sum_ok (ps := [⟨A4, cap4, headG k l⟩]) m5.rdOwn (by intro x hx; rw [List.mem_singleton] at hx; subst hx; exact m5.tail.rdOwnB) (by simp) (by intro x hx; rw [List.mem_singleton] at hx; subst hx; dsimp only; omega)) rfl ?_
    rintro _ _ ⟨rfl, rfl⟩
    rw [show List.flatMap OX.l [⟨A4, cap4, headG k l⟩] = headG k l by simp]
    refine WL.call Try.call8 rfl (PutFixed_ok (crc (headG k l)) w5 (crc_lt _)) rfl ?_
    rintro _ w6 ⟨A6, rfl, m6⟩
    refine WL.appendB (news := fixed (crc (headG k l))) Try.elem5 rfl rfl (m5.call m6).f2 (m6.rdOwnB (l := fixed (crc (headG k l)))) rfl rfl (by rw [hl4]; simp [fixed]; omega) rfl ?_
    intro A7 cap7 w7 m7
    refine WL.assign rfl rfl ?_
    refine WL.assign rfl rfl ?_
    refine WL.nil ?_
    refine WX.next ?_
    refine W.sub [(4, _), (5, _)] (.cons rfl (.cons rfl .nil)) ?_
    refine W.ret ?_
    refine WX.ret2 rfl rfl rfl ?_
    skip
    have e1 : putG k l = headG k l ++ fixed (crc (headG k l)) := by unfold putG; rw [if_neg (by omega)]
    have e2 : putE l = 0 := by unfold putE; rw [if_neg (by omega)]
    rw [e1, e2]
    exact ⟨A7, cap7, rfl, m7.drop1.drop1⟩

end Go.Proofs.Ytciadcalnindgaa
