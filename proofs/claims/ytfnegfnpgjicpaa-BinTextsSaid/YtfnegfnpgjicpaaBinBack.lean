/-
  Walk: seawalllaw01.BinBack: what was put one behind the other is read again, each at its place.
-/
import Derived.Test.YtfnegfnpgjicpaaKnown01
import Derived.Test.YtfnegfnpgjicpaaBinLaw3
namespace Go.Proofs.Ytfnegfnpgjicpaa
open Go Go.RowKit Bin

namespace Bin
theorem rdU_put {n : Nat} (hn : n < 18446744073709551616) (a r : List UInt8) {at_ : Int} (h : at_ = (a.length : Int)) : rdU (a ++ (put n ++ r)) at_ = (n, at_ + ((put n).length : Nat), 0) := by
  subst h
  refine rdU_ok (by omega) (by simp only [List.length_append]; omega) ?_
  rw [Int.toNat_natCast, List.drop_left]
  exact getF_put hn r
theorem rdI_put {i : Int} (hi : -9223372036854775808 ≤ i ∧ i ≤ 9223372036854775807) (a r : List UInt8) {at_ : Int} (h : at_ = (a.length : Int)) : rdI (a ++ (put (zig i) ++ r)) at_ = (i, at_ + ((put (zig i)).length : Nat), 0) := by
  unfold rdI
  rw [rdU_put (zig_lt hi) a r h, if_pos rfl, unzig_zig]
theorem rdB_put {s : List UInt8} {most : Int} (hs : s.length < 18446744073709551616) (hm : (s.length : Int) ≤ most) (a r : List UInt8) {at_ : Int} (h : at_ = (a.length : Int)) :
    rdB (a ++ (put s.length ++ (s ++ r))) at_ most = (s, at_ + ((put s.length).length : Nat) + (s.length : Nat), 0) := by
  unfold rdB
  rw [rdU_put hs a (s ++ r) h]
  subst h
  dsimp only
  have e1 : ((a.length : Int) + ((put s.length).length : Nat)).toNat = a.length + (put s.length).length := by omega
  have e2 : (a ++ (put s.length ++ (s ++ r))).drop (a.length + (put s.length).length) = s ++ r := by
    rw [← List.append_assoc, ← List.length_append, List.drop_left]
  rw [if_neg (by simp), if_neg (by omega), if_neg (by simp only [List.length_append]; omega), e1, e2, List.take_left]
end Bin

theorem rdUv_tuple (n : Nat) (a e : Int) : rdUv (n, a, e) = .tuple #[.int .u64 (n : Int), .int .i64 a, .int .i64 e] := rfl
theorem rdIv_tuple (n a e : Int) : rdIv (n, a, e) = .tuple #[.int .i64 n, .int .i64 a, .int .i64 e] := rfl

theorem Bytes_at {l : List UInt8} {A : Option Addr} {cap : Nat} {at_ most : Int} {w : World} {s : List UInt8} {to e : Int} (hr : rdB l at_ most = (s, to, e)) (h : RdB w A cap l) (hl : l.length ≤ 140737488355328) (ha : -9223372036854775808 ≤ at_ ∧ at_ ≤ 9223372036854775807)
    (hmo : -9223372036854775808 ≤ most ∧ most ≤ 9223372036854775807) : Fn Try.prog 14 [.slice A l.length cap, .int .i64 at_, .int .i64 most] w fun v w' =>
    ∃ A' cap', v = .tuple #[.slice A' s.length cap', .int .i64 to, .int .i64 e] ∧ Mem w w' [Asr.own 5 1 A' s.length cap' (bs s)] := by
  have := Bytes_ok l A cap at_ most w h hl ha hmo
  rw [hr] at this
  exact this

theorem BinBack_ok (l0 l3 l4 : List UInt8) (A0 A3 A4 : Option Addr) (k0 k3 k4 : Nat) (n : Nat) (i : Int) (hn : n < 18446744073709551616) (hi : -9223372036854775808 ≤ i ∧ i ≤ 9223372036854775807) (w : World)
    (h0 : RdB w A0 k0 l0) (h3 : RdB w A3 k3 l3) (h4 : RdB w A4 k4 l4) :
    Fn Try.prog 7 [.slice A0 l0.length k0, .int .u64 (n : Int), .int .i64 i, .slice A3 l3.length k3, .slice A4 l4.length k4] w fun v w' => v = .bool true ∧ Mem w w' [] := by
  have p1 := put_len hn
  have p2 := put_len (zig_lt hi)
  refine Fn.enter Try.func7 rfl Try.ntmps7 rfl ?_
  refine W.sub [(0, _), (1, _), (2, _), (3, _), (4, _)] (.cons rfl (.cons rfl (.cons rfl (.cons rfl (.cons rfl .nil))))) ?_
  refine W.seq ?_
  refine W.region ?_
  refine WL.assign rfl rfl ?_
  refine WL.nil ?_
  refine WX.next ?_
  refine W.sub [(0, _), (1, _), (2, _), (3, _), (4, _)] (.cons rfl (.cons rfl (.cons rfl (.cons rfl (.cons rfl .nil))))) ?_
  refine W.seq ?_
  refine W.seq ?_
  refine W.region ?_
  refine WL.move rfl rfl ?_
  refine WL.len Try.underlying23 rfl rfl ?_
  refine WL.gtr rfl rfl rfl ?_
  refine WL.moveIf rfl rfl (fun c0 => ?_) (fun c0 => ?_)
  · refine WL.off rfl rfl rfl rfl ?_
    refine WL.off rfl rfl rfl rfl ?_
    refine WL.off rfl rfl rfl rfl ?_
    refine WL.pickT rfl rfl rfl ?_
    refine WL.move rfl rfl ?_
    refine WL.off rfl rfl rfl rfl ?_
    refine WL.off rfl rfl rfl rfl ?_
    refine WL.off rfl rfl rfl rfl ?_
    refine WL.pickT rfl rfl rfl ?_
    refine WL.nil ?_
    refine WX.next ?_
    refine W.sub [(0, _), (1, _), (2, _), (3, _), (4, _), (34, _)] (.cons rfl (.cons rfl (.cons rfl (.cons rfl (.cons rfl (.cons rfl .nil)))))) ?_
    refine W.condT rfl ?_
    refine W.seq ?_
    refine W.region ?_
    refine WL.call Try.call11 rfl (known_ok w) rfl ?_
    rintro _ w1 ⟨rfl, m1⟩
    refine WL.assign rfl rfl ?_
    refine WL.nil ?_
    refine WX.next ?_
    refine W.sub [(10, _)] (.cons rfl .nil) ?_
    refine W.ret ?_
    refine WX.thenRet ?_
    refine WX.ret1 rfl rfl ?_
    exact ⟨rfl, m1⟩
  · refine WL.on rfl rfl ?_
    refine WL.move rfl rfl ?_
    refine WL.on rfl rfl ?_
    refine WL.len Try.underlying23 rfl rfl ?_
    refine WL.on rfl rfl ?_
    refine WL.gtr rfl rfl rfl ?_
    refine WL.pickF rfl rfl rfl ?_
    refine WL.moveIf rfl rfl (fun c1 => ?_) (fun c1 => ?_)
    · refine WL.off rfl rfl rfl rfl ?_
      refine WL.off rfl rfl rfl rfl ?_
      refine WL.off rfl rfl rfl rfl ?_
      refine WL.pickT rfl rfl rfl ?_
      refine WL.nil ?_
      refine WX.next ?_
      refine W.sub [(0, _), (1, _), (2, _), (3, _), (4, _), (34, _)] (.cons rfl (.cons rfl (.cons rfl (.cons rfl (.cons rfl (.cons rfl .nil)))))) ?_
      refine W.condT rfl ?_
      refine W.seq ?_
      refine W.region ?_
      refine WL.call Try.call11 rfl (known_ok w) rfl ?_
      rintro _ w1 ⟨rfl, m1⟩
      refine WL.assign rfl rfl ?_
      refine WL.nil ?_
      refine WX.next ?_
      refine W.sub [(10, _)] (.cons rfl .nil) ?_
      refine W.ret ?_
      refine WX.thenRet ?_
      refine WX.ret1 rfl rfl ?_
      exact ⟨rfl, m1⟩
    · refine WL.on rfl rfl ?_
      refine WL.move rfl rfl ?_
      refine WL.on rfl rfl ?_
      refine WL.len Try.underlying23 rfl rfl ?_
      refine WL.on rfl rfl ?_
      refine WL.gtr rfl rfl rfl ?_
      refine WL.pickF rfl rfl rfl ?_
      refine WL.nil ?_
      refine WX.next ?_
      refine W.sub [(0, _), (1, _), (2, _), (3, _), (4, _), (34, _)] (.cons rfl (.cons rfl (.cons rfl (.cons rfl (.cons rfl (.cons rfl .nil)))))) ?_
      refine W.ite rfl (fun c2 => ?_) (fun c2 => ?_)
      · refine W.seq ?_
        refine W.region ?_
        refine WL.call Try.call11 rfl (known_ok w) rfl ?_
        rintro _ w1 ⟨rfl, m1⟩
        refine WL.assign rfl rfl ?_
        refine WL.nil ?_
        refine WX.next ?_
        refine W.sub [(10, _)] (.cons rfl .nil) ?_
        refine W.ret ?_
        refine WX.thenRet ?_
        refine WX.ret1 rfl rfl ?_
        exact ⟨rfl, m1⟩
      · refine W.skip ?_
        refine WX.next ?_
        refine W.seq ?_
        refine W.region ?_
        refine WL.move rfl rfl ?_
        refine WL.call Try.call27 rfl (Copy_ok h0 (by omega)) rfl ?_
        rintro _ w1 ⟨A1, cap1, rfl, m1⟩
        refine WL.assign rfl rfl ?_
        refine WL.nil ?_
        refine WX.next ?_
        refine W.sub [(0, _), (1, _), (2, _), (3, _), (4, _), (11, _)] (.cons rfl (.cons rfl (.cons rfl (.cons rfl (.cons rfl (.cons rfl .nil)))))) ?_
        refine W.seq ?_
        refine W.region ?_
        refine WL.move rfl rfl ?_
        refine WL.move rfl rfl ?_
        refine WL.call Try.call10 rfl (PutUint_ok n hn w1) rfl ?_
        rintro _ w2 ⟨A2, cap2, rfl, m2⟩
        refine WL.appendB Try.elem5 rfl rfl (m1.call m2).f1 (m2.rdOwnB) rfl rfl (by omega) rfl ?_
        intro A2 cap2 w3 m3
        refine WL.assign rfl rfl ?_
        refine WL.nil ?_
        refine WX.next ?_
        refine W.sub [(0, _), (1, _), (2, _), (3, _), (4, _), (11, _)] (.cons rfl (.cons rfl (.cons rfl (.cons rfl (.cons rfl (.cons rfl .nil)))))) ?_
        refine W.seq ?_
        refine W.region ?_
        refine WL.move rfl rfl ?_
        refine WL.move rfl rfl ?_
        refine WL.call Try.call22 rfl (PutInt_ok i hi w3) rfl ?_
        rintro _ w4 ⟨A4', cap4, rfl, m4⟩
        refine WL.appendB Try.elem5 rfl rfl (m3.drop1.call m4).f1 (m4.rdOwnB) rfl rfl (by simp only [List.length_append]; omega) rfl ?_
        intro A5 cap5 w5 m5
        refine WL.assign rfl rfl ?_
        refine WL.nil ?_
        refine WX.next ?_
        refine W.sub [(0, _), (1, _), (2, _), (3, _), (4, _), (11, _)] (.cons rfl (.cons rfl (.cons rfl (.cons rfl (.cons rfl (.cons rfl .nil)))))) ?_
        refine W.seq ?_
        refine W.region ?_
        refine WL.move rfl rfl ?_
        refine WL.move rfl rfl ?_
        refine WL.call Try.call16 rfl (PutBytes_ok l3 A3 k3 w5 (h3.mem m5) (by omega)) rfl ?_
        rintro _ w6 ⟨A6, cap6, rfl, m6⟩
        have p3 := put_len (n := l3.length) (by omega)
        refine WL.appendB Try.elem5 rfl rfl (m5.call m6).f1 (m6.rdOwnB) rfl rfl (by simp only [List.length_append]; omega) rfl ?_
        intro A7 cap7 w7 m7
        refine WL.assign rfl rfl ?_
        refine WL.nil ?_
        refine WX.next ?_
        refine W.sub [(0, _), (1, _), (2, _), (3, _), (4, _), (11, _)] (.cons rfl (.cons rfl (.cons rfl (.cons rfl (.cons rfl (.cons rfl .nil)))))) ?_
        refine W.seq ?_
        refine W.region ?_
        refine WL.move rfl rfl ?_
        refine WL.move rfl rfl ?_
        refine WL.appendB Try.elem5 rfl rfl m7 (h4.mem m7) rfl rfl (by simp only [List.length_append]; omega) rfl ?_
        intro A8 cap8 w8 m8
        have r1 : rdU (l0 ++ put n ++ put (zig i) ++ (put l3.length ++ l3) ++ l4) (l0.length : Int) = (n, (l0.length : Int) + ((put n).length : Nat), 0) := by
          have := rdU_put hn l0 (put (zig i) ++ (put l3.length ++ l3) ++ l4) rfl
          simpa only [List.append_assoc] using this
        have r2 : rdI (l0 ++ put n ++ put (zig i) ++ (put l3.length ++ l3) ++ l4) ((l0.length : Int) + ((put n).length : Nat)) = (i, (l0.length : Int) + ((put n).length : Nat) + ((put (zig i)).length : Nat), 0) := by
          have := rdI_put hi (l0 ++ put n) ((put l3.length ++ l3) ++ l4) (at_ := (l0.length : Int) + ((put n).length : Nat)) (by simp only [List.length_append]; omega)
          simpa only [List.append_assoc] using this
        have r3 : rdB (l0 ++ put n ++ put (zig i) ++ (put l3.length ++ l3) ++ l4) ((l0.length : Int) + ((put n).length : Nat) + ((put (zig i)).length : Nat)) 4096 = (l3, (l0.length : Int) + ((put n).length : Nat) + ((put (zig i)).length : Nat) + ((put l3.length).length : Nat) + (l3.length : Nat), 0) := by
          have := rdB_put (most := 4096) (show l3.length < 18446744073709551616 by omega) (by omega) (l0 ++ put n ++ put (zig i)) l4 (at_ := (l0.length : Int) + ((put n).length : Nat) + ((put (zig i)).length : Nat)) (by simp only [List.length_append]; omega)
          simpa only [List.append_assoc] using this
        have hLl : (l0 ++ put n ++ put (zig i) ++ (put l3.length ++ l3) ++ l4).length = l0.length + (put n).length + (put (zig i)).length + (put l3.length).length + l3.length + l4.length := by simp only [List.length_append]; omega
        generalize hL : l0 ++ put n ++ put (zig i) ++ (put l3.length ++ l3) ++ l4 = L at *
        refine WL.assign rfl rfl ?_
        refine WL.nil ?_
        refine WX.next ?_
        refine W.sub [(0, _), (1, _), (2, _), (3, _), (4, _), (11, _)] (.cons rfl (.cons rfl (.cons rfl (.cons rfl (.cons rfl (.cons rfl .nil)))))) ?_
        refine W.seq ?_
        refine W.region ?_
        refine WL.move rfl rfl ?_
        refine WL.move rfl rfl ?_
        refine WL.len Try.underlying23 rfl rfl ?_
        refine WL.call Try.call21 rfl (Uint_ok L A8 cap8 _ w8 m8.rdOwnB (by omega) (by omega)) rfl ?_
        rintro _ _ ⟨rfl, rfl⟩
        rw [r1, rdUv_tuple]
        refine WL.move rfl rfl ?_
        refine WL.extract rfl rfl rfl ?_
        refine WL.extract rfl rfl rfl ?_
        refine WL.extract rfl rfl rfl ?_
        refine WL.assign rfl rfl ?_
        refine WL.assign rfl rfl ?_
        refine WL.assign rfl rfl ?_
        refine WL.nil ?_
        refine WX.next ?_
        refine W.sub [(0, _), (1, _), (2, _), (3, _), (4, _), (11, _), (12, _), (13, _), (14, _)] (.cons rfl (.cons rfl (.cons rfl (.cons rfl (.cons rfl (.cons rfl (.cons rfl (.cons rfl (.cons rfl .nil))))))))) ?_
        refine W.seq ?_
        refine W.region ?_
        refine WL.move rfl rfl ?_
        refine WL.move rfl rfl ?_
        refine WL.call Try.call28 rfl (Int_ok L A8 cap8 _ w8 m8.rdOwnB (by omega) (by omega)) rfl ?_
        rintro _ _ ⟨rfl, rfl⟩
        rw [r2, rdIv_tuple]
        refine WL.move rfl rfl ?_
        refine WL.extract rfl rfl rfl ?_
        refine WL.extract rfl rfl rfl ?_
        refine WL.extract rfl rfl rfl ?_
        refine WL.assign rfl rfl ?_
        refine WL.assign rfl rfl ?_
        refine WL.assign rfl rfl ?_
        refine WL.nil ?_
        refine WX.next ?_
        refine W.sub [(0, _), (1, _), (2, _), (3, _), (4, _), (11, _), (12, _), (13, _), (14, _), (15, _), (16, _), (17, _)] (.cons rfl (.cons rfl (.cons rfl (.cons rfl (.cons rfl (.cons rfl (.cons rfl (.cons rfl (.cons rfl (.cons rfl (.cons rfl (.cons rfl .nil)))))))))))) ?_
        refine W.seq ?_
        refine W.region ?_
        refine WL.move rfl rfl ?_
        refine WL.move rfl rfl ?_
        refine WL.call Try.call14 rfl (Bytes_at r3 m8.rdOwnB (by omega) (by omega) (by omega)) rfl ?_
        rintro _ w9 ⟨A9, cap9, rfl, m9⟩
        refine WL.move rfl rfl ?_
        refine WL.extract rfl rfl rfl ?_
        refine WL.extract rfl rfl rfl ?_
        refine WL.extract rfl rfl rfl ?_
        refine WL.assign rfl rfl ?_
        refine WL.assign rfl rfl ?_
        refine WL.assign rfl rfl ?_
        refine WL.nil ?_
        refine WX.next ?_
        refine W.sub [(0, _), (1, _), (2, _), (3, _), (4, _), (11, _), (12, _), (13, _), (14, _), (15, _), (16, _), (17, _), (18, _), (19, _), (20, _)] (.cons rfl (.cons rfl (.cons rfl (.cons rfl (.cons rfl (.cons rfl (.cons rfl (.cons rfl (.cons rfl (.cons rfl (.cons rfl (.cons rfl (.cons rfl (.cons rfl (.cons rfl .nil))))))))))))))) ?_
        refine W.seq ?_
        refine W.region ?_
        refine WL.move rfl rfl ?_
        refine WL.move rfl rfl ?_
        refine WL.eqI rfl rfl rfl ?_
        refine WL.moveIf rfl rfl (fun c3 => ?_) (fun c3 => ?_)
        · refine WL.on rfl rfl ?_
          refine WL.move rfl rfl ?_
          refine WL.on rfl rfl ?_
          refine WL.eqI rfl rfl rfl ?_
          refine WL.pickT rfl rfl rfl ?_
          refine WL.moveIf rfl rfl (fun c4 => ?_) (fun c4 => ?_)
          · refine WL.on rfl rfl ?_
            refine WL.move rfl rfl ?_
            refine WL.on rfl rfl ?_
            refine WL.move rfl rfl ?_
            refine WL.on rfl rfl ?_
            refine WL.eqI rfl rfl rfl ?_
            refine WL.pickT rfl rfl rfl ?_
            refine WL.moveIf rfl rfl (fun c5 => ?_) (fun c5 => ?_)
            · refine WL.on rfl rfl ?_
              refine WL.move rfl rfl ?_
              refine WL.on rfl rfl ?_
              refine WL.eqI rfl rfl rfl ?_
              refine WL.pickT rfl rfl rfl ?_
              refine WL.moveIf rfl rfl (fun c6 => ?_) (fun c6 => ?_)
              · refine WL.on rfl rfl ?_
                refine WL.move rfl rfl ?_
                refine WL.on rfl rfl ?_
                refine WL.move rfl rfl ?_
                refine WL.on rfl rfl ?_
                refine WL.call Try.call12 rfl (Same_ok (l1 := l3) (l2 := l3) m9.rdOwnB ((h3.mem m8).mem m9)) rfl ?_
                rintro _ _ ⟨rfl, rfl⟩
                refine WL.pickT rfl rfl rfl ?_
                refine WL.moveIf rfl rfl (fun c7 => ?_) (fun c7 => ?_)
                · refine WL.on rfl rfl ?_
                  refine WL.move rfl rfl ?_
                  refine WL.on rfl rfl ?_
                  refine WL.eqI rfl rfl rfl ?_
                  refine WL.pickT rfl rfl rfl ?_
                  refine WL.assign rfl rfl ?_
                  refine WL.nil ?_
                  refine WX.next ?_
                  refine W.sub [(0, _), (4, _), (11, _), (13, _), (16, _), (19, _), (21, _)] (.cons rfl (.cons rfl (.cons rfl (.cons rfl (.cons rfl (.cons rfl (.cons rfl .nil))))))) ?_
                  refine W.seq ?_
                  refine W.region ?_
                  refine WL.call Try.call11 rfl (known_dec w9) rfl ?_
                  rintro _ w10 ⟨rfl, m10⟩
                  refine WL.moveIf rfl rfl (fun c8 => ?_) (fun c8 => ?_)
                  · refine WL.on rfl rfl ?_
                    refine WL.move rfl rfl ?_
                    refine WL.pickT rfl rfl rfl ?_
                    refine WL.moveIf rfl rfl (fun c9 => ?_) (fun c9 => ?_)
                    · refine WL.on rfl rfl ?_
                      refine WL.move rfl rfl ?_
                      refine WL.on rfl rfl ?_
                      refine WL.move rfl rfl ?_
                      refine WL.on rfl rfl ?_
                      refine WL.len Try.underlying23 rfl rfl ?_
                      refine WL.on rfl rfl ?_
                      refine WL.move rfl rfl ?_
                      refine WL.on rfl rfl ?_
                      refine WL.len Try.underlying23 rfl rfl ?_
                      refine WL.on rfl rfl ?_
                      refine WL.sub' rfl rfl (by first | exact wI64 (by omega) | rfl) rfl ?_
                      refine WL.on rfl rfl ?_
                      refine WL.eqI rfl rfl rfl ?_
                      refine WL.pickT rfl rfl rfl ?_
                      refine WL.moveIf rfl rfl (fun c10 => ?_) (fun c10 => ?_)
                      · refine WL.on rfl rfl ?_
                        refine WL.move rfl rfl ?_
                        refine WL.on rfl rfl ?_
                        refine WL.move rfl rfl ?_
                        refine WL.on rfl rfl ?_
                        refine WL.len Try.underlying23 rfl rfl ?_
                        refine WL.on rfl rfl ?_
                        refine WL.sub' rfl rfl (by first | exact wI64 (by omega) | rfl) rfl ?_
                        refine WL.on rfl rfl ?_
                        refine WL.leq rfl rfl rfl ?_
                        refine WL.pickT rfl rfl rfl ?_
                        refine WL.moveIf rfl rfl (fun c11 => ?_) (fun c11 => ?_)
                        · refine WL.on rfl rfl ?_
                          refine WL.move rfl rfl ?_
                          refine WL.on rfl rfl ?_
                          refine WL.move rfl rfl ?_
                          refine WL.on rfl rfl ?_
                          refine WL.sub' rfl rfl (by first | exact wI64 (by omega) | rfl) rfl ?_
                          refine WL.on rfl rfl ?_
                          refine WL.leq rfl rfl rfl ?_
                          refine WL.pickT rfl rfl rfl ?_
                          refine WL.assign rfl rfl ?_
                          refine WL.nil ?_
                          refine WX.next ?_
                          refine W.sub [(10, _)] (.cons rfl .nil) ?_
                          refine W.ret ?_
                          refine WX.ret1 rfl rfl ?_
                          exact ⟨by rw [decide_eq_true (by omega)], ((m8.call m9).call m10).nil⟩
                        · exact absurd (by omega) c11
                      · exact absurd (by omega) c10
                    · exact absurd rfl c9
                  · exact absurd trivial c8
                · exact absurd rfl c7
              · exact absurd rfl c6
            · exact absurd rfl c5
          · exact absurd rfl c4
        · exact absurd rfl c3
end Go.Proofs.Ytfnegfnpgjicpaa
