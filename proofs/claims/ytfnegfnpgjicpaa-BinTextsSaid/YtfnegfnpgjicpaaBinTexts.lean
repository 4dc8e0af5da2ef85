/-
  Walk: seawalllaw01.BinTexts: texts that stand anywhere are what the chapter says, and are their owner's.
-/
import Derived.Test.YtfnegfnpgjicpaaBinOne
import Derived.Test.YtfnegfnpgjicpaaOwnAll2
import Derived.Test.YtfnegfnpgjicpaaOrd
import Derived.Test.YtfnegfnpgjicpaaLists2
namespace Go.Proofs.Ytfnegfnpgjicpaa
open Go Go.RowKit Bin

theorem refBytes_at {l : List UInt8} {A : Option Addr} {cap : Nat} {at_ most : Int} {w : World} {s : List UInt8} {to e : Int} (hr : rdB l at_ most = (s, to, e)) (h : RdB w A cap l) (hl : l.length ≤ 140737488355328) (ha : -9223372036854775808 ≤ at_ ∧ at_ ≤ 9223372036854775807)
    (hmo : -9223372036854775808 ≤ most ∧ most ≤ 9223372036854775807) : Fn Try.prog 15 [.slice A l.length cap, .int .i64 at_, .int .i64 most] w fun v w' =>
    ∃ A' cap', v = .tuple #[.slice A' s.length cap', .int .i64 to, .int .i64 e] ∧ Mem w w' [Asr.own 5 1 A' s.length cap' (bs s)] := by
  have := refBytes_ok l A cap at_ most w h hl ha hmo
  rw [hr] at this
  exact this

theorem BinTexts_ok (l : List UInt8) (A : Option Addr) (cap : Nat) (at_ most : Int) (ha : -9223372036854775808 ≤ at_ ∧ at_ ≤ 9223372036854775807) (hmo : -9223372036854775808 ≤ most ∧ most ≤ 9223372036854775807) (w : World) (h : RdB w A cap l) :
    Fn Try.prog 4 [.slice A l.length cap, .int .i64 at_, .int .i64 most] w fun v w' => v = .bool true ∧ Mem w w' [] := by
  obtain ⟨s, to, e, hb⟩ : ∃ s t e, rdB l at_ most = (s, t, e) := ⟨_, _, _, rfl⟩
  have hsl : s.length ≤ l.length := by have := rdB_le l at_ most; rw [hb] at this; exact this
  have hpl : (put l.length ++ l).length = (put l.length).length + l.length := List.length_append
  refine Fn.enter Try.func4 rfl Try.ntmps4 rfl ?_
  refine W.sub [(0, _), (1, _), (2, _)] (.cons rfl (.cons rfl (.cons rfl .nil))) ?_
  refine W.seq ?_
  refine W.region ?_
  refine WL.assign rfl rfl ?_
  refine WL.nil ?_
  refine WX.next ?_
  refine W.sub [(0, _), (1, _), (2, _)] (.cons rfl (.cons rfl (.cons rfl .nil))) ?_
  refine W.seq ?_
  refine W.seq ?_
  refine W.region ?_
  refine WL.move rfl rfl ?_
  refine WL.len Try.underlying23 rfl rfl ?_
  refine WL.gtr rfl rfl rfl ?_
  refine WL.nil ?_
  refine WX.next ?_
  refine W.sub [(0, _), (1, _), (2, _), (18, _)] (.cons rfl (.cons rfl (.cons rfl (.cons rfl .nil)))) ?_
  refine W.ite rfl (fun c0 => ?_) (fun c0 => ?_)
  · refine W.seq ?_
    refine W.region ?_
    refine WL.call Try.call11 rfl (known_ok w) rfl ?_
    rintro _ w1 ⟨rfl, m1⟩
    refine WL.assign rfl rfl ?_
    refine WL.nil ?_
    refine WX.next ?_
    refine W.sub [(6, _)] (.cons rfl .nil) ?_
    refine W.ret ?_
    refine WX.thenRet ?_
    refine WX.ret1 rfl rfl ?_
    exact ⟨rfl, m1⟩
  · refine W.skip ?_
    refine WX.next ?_
    refine W.seq ?_
    refine W.region ?_
    refine WL.move rfl rfl ?_
    refine WL.call Try.call13 rfl (Lent_ok h (by omega)) rfl ?_
    rintro _ w1 ⟨gx, sp, rfl, m1⟩
    refine WL.assign rfl rfl ?_
    refine WL.nil ?_
    refine WX.next ?_
    refine W.sub [(0, _), (1, _), (2, _), (7, _)] (.cons rfl (.cons rfl (.cons rfl (.cons rfl .nil)))) ?_
    refine W.seq ?_
    refine W.region ?_
    refine WL.move rfl rfl ?_
    refine WL.move rfl rfl ?_
    refine WL.move rfl rfl ?_
    refine WL.call Try.call14 rfl (Bytes_at hb (lentRd m1) (by omega) ha hmo) rfl ?_
    rintro _ w2 ⟨A2, cap2, rfl, m2⟩
    have M2 := m1.call m2
    refine WL.move rfl rfl ?_
    refine WL.extract rfl rfl rfl ?_
    refine WL.extract rfl rfl rfl ?_
    refine WL.extract rfl rfl rfl ?_
    refine WL.assign rfl rfl ?_
    refine WL.assign rfl rfl ?_
    refine WL.assign rfl rfl ?_
    refine WL.nil ?_
    refine WX.next ?_
    refine W.sub [(0, _), (1, _), (2, _), (7, _), (8, _), (9, _), (10, _)] (.cons rfl (.cons rfl (.cons rfl (.cons rfl (.cons rfl (.cons rfl (.cons rfl .nil))))))) ?_
    refine W.seq ?_
    refine W.region ?_
    refine WL.move rfl rfl ?_
    refine WL.move rfl rfl ?_
    refine WL.move rfl rfl ?_
    refine WL.call Try.call15 rfl (refBytes_at hb (h.mem M2) (by omega) ha hmo) rfl ?_
    rintro _ w3 ⟨A3, cap3, rfl, m3⟩
    have M3 := M2.call m3
    refine WL.move rfl rfl ?_
    refine WL.extract rfl rfl rfl ?_
    refine WL.extract rfl rfl rfl ?_
    refine WL.extract rfl rfl rfl ?_
    refine WL.assign rfl rfl ?_
    refine WL.assign rfl rfl ?_
    refine WL.assign rfl rfl ?_
    refine WL.nil ?_
    refine WX.next ?_
    refine W.sub [(0, _), (7, _), (8, _), (9, _), (10, _), (11, _), (12, _), (13, _)] (.cons rfl (.cons rfl (.cons rfl (.cons rfl (.cons rfl (.cons rfl (.cons rfl (.cons rfl .nil)))))))) ?_
    refine W.seq ?_
    refine W.region ?_
    refine WL.move rfl rfl ?_
    refine WL.call Try.call16 rfl (PutBytes_ok l _ _ w3 (lentRd M3.f2) (by omega)) rfl ?_
    rintro _ w4 ⟨A4, cap4, rfl, m4⟩
    have M4 := M3.call m4
    have hp := put_len (n := l.length) (by omega)
    refine WL.assign rfl rfl ?_
    refine WL.nil ?_
    refine WX.next ?_
    refine W.sub [(0, _), (7, _), (8, _), (9, _), (10, _), (11, _), (12, _), (13, _), (14, _)] (.cons rfl (.cons rfl (.cons rfl (.cons rfl (.cons rfl (.cons rfl (.cons rfl (.cons rfl (.cons rfl .nil))))))))) ?_
    refine W.seq ?_
    refine W.region ?_
    refine WL.move rfl rfl ?_
    refine WL.move rfl rfl ?_
    refine WL.call Try.call12 rfl (Same_ok (l1 := s) (l2 := s) M4.f2.rdOwnB M4.f1.rdOwnB) rfl ?_
    rintro _ _ ⟨rfl, rfl⟩
    refine WL.moveIf rfl rfl (fun c1 => ?_) (fun c1 => ?_)
    · refine WL.on rfl rfl ?_
      refine WL.move rfl rfl ?_
      refine WL.on rfl rfl ?_
      refine WL.move rfl rfl ?_
      refine WL.on rfl rfl ?_
      refine WL.eqI rfl rfl rfl ?_
      refine WL.pickT rfl rfl rfl ?_
      refine WL.moveIf rfl rfl (fun c2 => ?_) (fun c2 => ?_)
      · refine WL.on rfl rfl ?_
        refine WL.move rfl rfl ?_
        refine WL.on rfl rfl ?_
        refine WL.move rfl rfl ?_
        refine WL.on rfl rfl ?_
        refine WL.eqI rfl rfl rfl ?_
        refine WL.pickT rfl rfl rfl ?_
        refine WL.moveIf rfl rfl (fun c3 => ?_) (fun c3 => ?_)
        · refine WL.on rfl rfl ?_
          refine WL.move rfl rfl ?_
          refine WL.on rfl rfl ?_
          refine WL.move rfl rfl ?_
          refine WL.on rfl rfl ?_
          refine WL.call Try.call17 rfl (refPutBytes_ok l A cap w4 (h.mem M4) (by omega)) rfl ?_
          rintro _ w5 ⟨A5, cap5, rfl, m5⟩
          have M5 := M4.call m5
          refine WL.on rfl rfl ?_
          refine WL.call Try.call12 rfl (Same_ok (l1 := put l.length ++ l) (l2 := put l.length ++ l) M5.f1.rdOwnB M5.rdOwnB) rfl ?_
          rintro _ _ ⟨rfl, rfl⟩
          refine WL.pickT rfl rfl rfl ?_
          refine WL.moveIf rfl rfl (fun c4 => ?_) (fun c4 => ?_)
          · refine WL.on rfl rfl ?_
            refine WL.move rfl rfl ?_
            refine WL.on rfl rfl ?_
            refine WL.move rfl rfl ?_
            refine WL.on rfl rfl ?_
            refine WL.call Try.call18 rfl (Whole_dec M5.f4 (h.mem M5) (by omega)) rfl ?_
            rintro _ _ ⟨rfl, rfl⟩
            refine WL.pickT rfl rfl rfl ?_
            refine WL.assign rfl rfl ?_
            refine WL.nil ?_
            refine WX.next ?_
            refine W.sub [(0, _), (7, _), (8, _), (11, _), (14, _), (15, _)] (.cons rfl (.cons rfl (.cons rfl (.cons rfl (.cons rfl (.cons rfl .nil)))))) ?_
            refine W.seq ?_
            refine W.region ?_
            refine WL.move rfl rfl ?_
            refine WL.call Try.call19 rfl (Spoil_ok (rest := bs [91, 92] ++ sp) (l := l) (by have hh := M5.f4; rw [bs_append, List.append_assoc] at hh; exact hh) (by omega)) rfl ?_
            rintro _ w6 ⟨l', hl', M6⟩
            refine WL.nil ?_
            refine WX.next ?_
            refine W.sub [(0, _), (8, _), (11, _), (14, _), (15, _)] (.cons rfl (.cons rfl (.cons rfl (.cons rfl (.cons rfl .nil))))) ?_
            refine W.seq ?_
            refine W.region ?_
            refine WL.call Try.call11 rfl (known_dec w6) rfl ?_
            rintro _ w7 ⟨rfl, m7⟩
            have M7 := M6.call m7
            refine WL.moveIf rfl rfl (fun c5 => ?_) (fun c5 => ?_)
            · refine WL.on rfl rfl ?_
              refine WL.move rfl rfl ?_
              refine WL.pickT rfl rfl rfl ?_
              refine WL.moveIf rfl rfl (fun c6 => ?_) (fun c6 => ?_)
              · refine WL.on rfl rfl ?_
                refine WL.move rfl rfl ?_
                refine WL.on rfl rfl ?_
                refine WL.move rfl rfl ?_
                refine WL.on rfl rfl ?_
                refine WL.call Try.call12 rfl (Same_ok (l1 := s) (l2 := s) M7.f4.rdOwnB M7.f3.rdOwnB) rfl ?_
                rintro _ _ ⟨rfl, rfl⟩
                refine WL.pickT rfl rfl rfl ?_
                refine WL.moveIf rfl rfl (fun c7 => ?_) (fun c7 => ?_)
                · refine WL.on rfl rfl ?_
                  refine WL.move rfl rfl ?_
                  refine WL.on rfl rfl ?_
                  refine WL.move rfl rfl ?_
                  refine WL.on rfl rfl ?_
                  refine WL.call Try.call17 rfl (refPutBytes_ok l A cap w7 (h.mem M7) (by omega)) rfl ?_
                  rintro _ w8 ⟨A8, cap8, rfl, m8⟩
                  have M8 := M7.call m8
                  refine WL.on rfl rfl ?_
                  refine WL.call Try.call12 rfl (Same_ok (l1 := put l.length ++ l) (l2 := put l.length ++ l) M8.f3.rdOwnB M8.rdOwnB) rfl ?_
                  rintro _ _ ⟨rfl, rfl⟩
                  refine WL.pickT rfl rfl rfl ?_
                  refine WL.moveIf rfl rfl (fun c8 => ?_) (fun c8 => ?_)
                  · refine WL.on rfl rfl ?_
                    refine WL.move rfl rfl ?_
                    refine WL.on rfl rfl ?_
                    refine WL.move rfl rfl ?_
                    refine WL.on rfl rfl ?_
                    refine WL.buildS Try.elem23 M8 rfl rfl rfl (by simp [Value.oneCell']) rfl rfl ?_
                    intro g w9 M9
                    refine WL.on rfl rfl ?_
                    refine WL.call Try.call20 rfl (Own_ok (L := []) (xs := [⟨A2, cap2, s⟩, ⟨A4, cap4, put l.length ++ l⟩]) (M9.ord [0, 6, 4] (by decide) rfl) (by simp) (by simp; omega)) rfl ?_
                    rintro _ w10 ⟨rfl, m10⟩
                    refine WL.pickT rfl rfl rfl ?_
                    refine WL.assign rfl rfl ?_
                    refine WL.nil ?_
                    refine WX.next ?_
                    refine W.sub [(6, _)] (.cons rfl .nil) ?_
                    refine W.ret ?_
                    refine WX.ret1 rfl rfl ?_
                    exact ⟨rfl, m10⟩
                  · exact absurd rfl c8
                · exact absurd rfl c7
              · exact absurd trivial c6
            · exact absurd trivial c5
          · exact absurd rfl c4
        · exact absurd rfl c3
      · exact absurd rfl c2
    · exact absurd rfl c1
end Go.Proofs.Ytfnegfnpgjicpaa
