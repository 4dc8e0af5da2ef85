/-
  Walk: seawalllaw02.FrameSeeks.
-/
import Derived.Test.YtjfbloepomnibaaKnown02
import Derived.Test.YtjfbloepomnibaaFrameLaw
import Derived.Test.YtjfbloepomnibaaLists2
namespace Go.Proofs.Ytjfbloepomnibaa
open Go Go.RowKit Crc Bin

theorem FrameSeeks_ok (a l : List UInt8) (A B : Option Addr) (ka kb : Nat) (k : UInt8) (from_ : Int) (hf : -9223372036854775808 ≤ from_ ∧ from_ ≤ 9223372036854775807) (w : World) (ha : RdB w A ka a) (hb : RdB w B kb l) :
    Fn Try.prog 7 [.slice A a.length ka, .int .u8 (k.toNat : Int), .slice B l.length kb, .int .i64 from_] w fun v w' => v = .bool true ∧ Mem w w' [] := by
  refine Fn.enter Try.func7 rfl Try.ntmps7 rfl ?_
  refine W.sub [(0, _), (1, _), (2, _), (3, _)] (.cons rfl (.cons rfl (.cons rfl (.cons rfl .nil)))) ?_
  refine W.seq ?_
  refine W.region ?_
  refine WL.assign rfl rfl ?_
  refine WL.nil ?_
  refine WX.next ?_
  refine W.sub [(0, _), (1, _), (2, _), (3, _)] (.cons rfl (.cons rfl (.cons rfl (.cons rfl .nil)))) ?_
  refine W.seq ?_
  refine W.seq ?_
  refine W.region ?_
  refine WL.move rfl rfl ?_
  refine WL.len Try.underlying22 rfl rfl ?_
  refine WL.gtr rfl rfl rfl ?_
  refine WL.nil ?_
  refine WX.next ?_
  refine W.sub [(0, _), (1, _), (2, _), (3, _), (19, _)] (.cons rfl (.cons rfl (.cons rfl (.cons rfl (.cons rfl .nil))))) ?_
  refine W.ite rfl (fun c0 => ?_) (fun c0 => ?_)
  · refine W.seq ?_
    refine W.region ?_
    refine WL.call Try.call10 rfl (known2_ok w) rfl ?_
    rintro _ w1 ⟨rfl, m1⟩
    refine WL.assign rfl rfl ?_
    refine WL.nil ?_
    refine WX.next ?_
    refine W.sub [(8, _)] (.cons rfl .nil) ?_
    refine W.ret ?_
    refine WX.thenRet ?_
    refine WX.ret1 rfl rfl ?_
    exact ⟨by simp, m1⟩
  · refine W.skip ?_
    refine WX.next ?_
    refine W.seq ?_
    refine W.seq ?_
    refine W.region ?_
    refine WL.assign rfl rfl ?_
    refine WL.nil ?_
    refine WX.next ?_
    refine W.sub [(0, _), (1, _), (2, _), (3, _), (9, _)] (.cons rfl (.cons rfl (.cons rfl (.cons rfl (.cons rfl .nil))))) ?_
    refine W.block ?_
    refine W.loop (ι := Nat) (fun i => [(0, .slice A a.length ka), (1, .int .u8 (k.toNat : Int)), (2, .slice B l.length kb), (3, .int .i64 from_), (9, .int .i64 (i : Int))]) (fun i w' => i ≤ a.length ∧ (∀ (j : Nat) (x : UInt8), j < i → a[j]? = some x → x ≠ 167) ∧ w = w') (fun i => a.length - i) (0) (by (repeat' (first | exact envSub.nil | refine envSub.cons ?_ ?_)) <;> first | rfl | (refine congrArg some ?_; refine congrArg (Value.int _) ?_; first | omega | (dsimp only; omega)) | (simp; done) | (refine congrArg some ?_; dsimp only; congr 1; omega) | (simp; omega)) ⟨by omega, (fun j x h => by omega), rfl⟩ ?_
    rintro i _ ⟨hi, hno, rfl⟩
    refine W.sub [(0, _), (1, _), (2, _), (3, _), (9, _)] (.cons rfl (.cons rfl (.cons rfl (.cons rfl (.cons rfl .nil))))) ?_
    refine W.seq ?_
    refine W.seq ?_
    refine W.region ?_
    refine WL.move rfl rfl ?_
    refine WL.move rfl rfl ?_
    refine WL.len Try.underlying22 rfl rfl ?_
    refine WL.lss rfl rfl rfl ?_
    refine WL.nil ?_
    refine WX.next ?_
    refine W.sub [(0, _), (1, _), (2, _), (3, _), (9, _), (24, _)] (.cons rfl (.cons rfl (.cons rfl (.cons rfl (.cons rfl (.cons rfl .nil)))))) ?_
    refine W.ite rfl (fun c1 => ?_) (fun c1 => ?_)
    · obtain ⟨x, hx⟩ : ∃ x, a[i]? = some x := ⟨_, List.getElem?_eq_getElem (by omega)⟩
      refine W.skip ?_
      refine WX.next ?_
      refine W.seq ?_
      refine W.block ?_
      refine W.seq ?_
      refine W.region ?_
      refine WL.move rfl rfl ?_
      refine WL.move rfl rfl ?_
      refine WL.idx1 (v := .int .u8 (x.toNat : Int)) Try.underlying22 Try.sizeOf5 rfl rfl ha (by rw [Int.toNat_natCast, bs_get, hx]; rfl) (by omega) rfl ?_
      intro ad6 had6
      refine WL.load Try.isAgg5 rfl had6 rfl ?_
      refine WL.eqI rfl rfl rfl ?_
      refine WL.nil ?_
      refine WX.next ?_
      refine W.sub [(0, _), (1, _), (2, _), (3, _), (9, _), (31, _)] (.cons rfl (.cons rfl (.cons rfl (.cons rfl (.cons rfl (.cons rfl .nil)))))) ?_
      refine W.ite rfl (fun c2 => ?_) (fun c2 => ?_)
      · refine W.seq ?_
        refine W.region ?_
        refine WL.call Try.call10 rfl (known2_ok w) rfl ?_
        rintro _ w1 ⟨rfl, m1⟩
        refine WL.assign rfl rfl ?_
        refine WL.nil ?_
        refine WX.next ?_
        refine W.sub [(8, _)] (.cons rfl .nil) ?_
        refine W.ret ?_
        refine WX.blockRet ?_
        refine WX.thenRet ?_
        refine WX.thenRet ?_
        refine WX.blockRet ?_
        refine WX.thenRet ?_
        refine WX.ret1 rfl rfl ?_
        exact ⟨by simp, m1⟩
      · skip
        have hno2 : ∀ (j : Nat) (y : UInt8), j < i + 1 → a[j]? = some y → y ≠ 167 := by
          intro j y hj hy
          by_cases hji : j = i
          · subst hji
            rw [hx] at hy
            obtain rfl : x = y := by simpa using hy
            rintro rfl
            exact c2 rfl
          · exact hno j y (by omega) hy
        refine W.skip ?_
        refine WX.blockNormal ?_
        refine WX.next ?_
        refine W.region ?_
        refine WL.move rfl rfl ?_
        refine WL.add rfl rfl (by first | exact wI64 (by omega) | rfl) rfl ?_
        refine WL.assign rfl rfl ?_
        refine WL.nil ?_
        refine WX.round (i + 1) (by (repeat' (first | exact envSub.nil | refine envSub.cons ?_ ?_)) <;> first | rfl | (refine congrArg some ?_; refine congrArg (Value.int _) ?_; first | omega | (dsimp only; omega)) | (simp; done) | (refine congrArg some ?_; dsimp only; congr 1; omega) | (simp; omega)) ⟨by omega, hno2, rfl⟩ (by first | omega | (dsimp only; omega))
    · obtain rfl : i = a.length := by omega
      have hall : ∀ (j : Nat) (x : UInt8), a[j]? = some x → x ≠ 167 := fun j x hj => hno j x (List.getElem?_eq_some_iff.1 hj).1 hj
      refine W.exit ?_
      refine WX.thenExit ?_
      refine WX.thenExit ?_
      refine WX.blockHere ?_
      refine WX.next ?_
      refine W.seq ?_
      refine W.region ?_
      refine WL.move rfl rfl ?_
      refine WL.move rfl rfl ?_
      refine WL.call Try.call14 rfl (Put_ok k l B kb w hb) rfl ?_
      rintro _ w2 ⟨A2, cap2, rfl, m2⟩
      refine WL.move rfl rfl ?_
      refine WL.extract rfl rfl rfl ?_
      refine WL.extract rfl rfl rfl ?_
      refine WL.assign rfl rfl ?_
      refine WL.assign rfl rfl ?_
      refine WL.nil ?_
      refine WX.next ?_
      refine W.sub [(0, _), (1, _), (2, _), (3, _), (10, _), (11, _)] (.cons rfl (.cons rfl (.cons rfl (.cons rfl (.cons rfl (.cons rfl .nil)))))) ?_
      refine W.seq ?_
      refine W.seq ?_
      refine W.region ?_
      refine WL.move rfl rfl ?_
      refine WL.neI rfl rfl rfl ?_
      refine WL.moveIf rfl rfl (fun c3 => ?_) (fun c3 => ?_)
      · refine WL.off rfl rfl rfl rfl ?_
        refine WL.off rfl rfl rfl rfl ?_
        refine WL.off rfl rfl rfl rfl ?_
        refine WL.pickT rfl rfl rfl ?_
        refine WL.nil ?_
        refine WX.next ?_
        refine W.sub [(0, _), (1, _), (2, _), (3, _), (10, _), (45, _)] (.cons rfl (.cons rfl (.cons rfl (.cons rfl (.cons rfl (.cons rfl .nil)))))) ?_
        refine W.condT rfl ?_
        refine W.seq ?_
        refine W.region ?_
        refine WL.call Try.call10 rfl (known2_ok w2) rfl ?_
        rintro _ w3 ⟨rfl, m3⟩
        refine WL.assign rfl rfl ?_
        refine WL.nil ?_
        refine WX.next ?_
        refine W.sub [(8, _)] (.cons rfl .nil) ?_
        refine W.ret ?_
        refine WX.thenRet ?_
        refine WX.ret1 rfl rfl ?_
        exact ⟨by simp, (m2.call m3).nil⟩
      · refine WL.on rfl rfl ?_
        refine WL.move rfl rfl ?_
        refine WL.on rfl rfl ?_
        refine WL.len Try.underlying22 rfl rfl ?_
        refine WL.on rfl rfl ?_
        refine WL.gtr rfl rfl rfl ?_
        refine WL.pickF rfl rfl rfl ?_
        refine WL.nil ?_
        refine WX.next ?_
        refine W.sub [(0, _), (1, _), (2, _), (3, _), (10, _), (45, _)] (.cons rfl (.cons rfl (.cons rfl (.cons rfl (.cons rfl (.cons rfl .nil)))))) ?_
        refine W.ite rfl (fun c4 => ?_) (fun c4 => ?_)
        · refine W.seq ?_
          refine W.region ?_
          refine WL.call Try.call10 rfl (known2_ok w2) rfl ?_
          rintro _ w3 ⟨rfl, m3⟩
          refine WL.assign rfl rfl ?_
          refine WL.nil ?_
          refine WX.next ?_
          refine W.sub [(8, _)] (.cons rfl .nil) ?_
          refine W.ret ?_
          refine WX.thenRet ?_
          refine WX.ret1 rfl rfl ?_
          exact ⟨by simp, (m2.call m3).nil⟩
        · skip
          have hl : l.length ≤ 1024 := by omega
          have hpl := putG_length (k := k) hl
          obtain ⟨p, hp⟩ : ∃ p, p = putG k l := ⟨_, rfl⟩
          rw [← hp] at m2 hpl ⊢
          refine W.skip ?_
          refine WX.next ?_
          refine W.seq ?_
          refine W.region ?_
          refine WL.move rfl rfl ?_
          refine WL.call Try.call11 rfl (Copy_ok (ha.mem m2) (by omega)) rfl ?_
          rintro _ w3 ⟨A3, cap3, rfl, m3⟩
          have M3 := m2.call m3
          refine WL.assign rfl rfl ?_
          refine WL.nil ?_
          refine WX.next ?_
          refine W.sub [(0, _), (1, _), (2, _), (3, _), (10, _), (12, _)] (.cons rfl (.cons rfl (.cons rfl (.cons rfl (.cons rfl (.cons rfl .nil)))))) ?_
          refine W.seq ?_
          refine W.region ?_
          refine WL.move rfl rfl ?_
          refine WL.move rfl rfl ?_
          refine WL.appendB Try.elem5 rfl rfl M3 (M3.tail.rdOwnB) rfl rfl (by omega) rfl ?_
          intro A4 cap4 w4 m4
          have hbl : (a ++ p).length = a.length + p.length := List.length_append
          have g1 : getG (a ++ p) (a.length : Int) = (k, l, (a.length : Int) + ((l.length + 10 : Nat) : Int), 0) := by
            have := getG_put a k l hl [] (at_ := (a.length : Int)) rfl
            rw [List.append_nil, ← hp] at this
            exact this
          have g2 : from_ ≤ a.length → seekG (a ++ p) from_ = a.length := fun h => by
            have := seekG_put a k l hl hall [] h
            rw [List.append_nil, ← hp] at this
            exact this
          have g3 := seekG_range (a ++ p) from_
          have g4 := seekG_end (a ++ p)
          refine WL.assign rfl rfl ?_
          refine WL.nil ?_
          refine WX.next ?_
          refine W.sub [(0, _), (1, _), (2, _), (3, _), (12, _)] (.cons rfl (.cons rfl (.cons rfl (.cons rfl (.cons rfl .nil))))) ?_
          refine W.seq ?_
          refine W.region ?_
          refine WL.move rfl rfl ?_
          refine WL.move rfl rfl ?_
          refine WL.call Try.call22 rfl (Seek_ok (a ++ p) A4 cap4 from_ w4 m4.rdOwnB (by omega) hf) rfl ?_
          rintro _ w5 ⟨rfl, m5⟩
          have M5 := m4.call m5
          refine WL.assign rfl rfl ?_
          refine WL.nil ?_
          refine WX.next ?_
          refine W.sub [(0, _), (1, _), (2, _), (3, _), (12, _), (13, _)] (.cons rfl (.cons rfl (.cons rfl (.cons rfl (.cons rfl (.cons rfl .nil)))))) ?_
          refine W.seq ?_
          refine W.region ?_
          refine WL.move rfl rfl ?_
          refine WL.move rfl rfl ?_
          refine WL.len Try.underlying22 rfl rfl ?_
          refine WL.call Try.call20 rfl (Get_ok (a ++ p) A4 cap4 (a.length : Int) w5 M5.rdOwnB (by omega) (by omega)) rfl ?_
          rintro _ w6 hgot
          rw [g1] at hgot
          obtain ⟨A6, cap6, rfl, m6⟩ := hgot
          have M6 := M5.call m6
          refine WL.move rfl rfl ?_
          refine WL.extract rfl rfl rfl ?_
          refine WL.extract rfl rfl rfl ?_
          refine WL.extract rfl rfl rfl ?_
          refine WL.alloc Try.zeroValue38 M6 rfl ?_
          intro g7 w7 m7
          refine WL.storeW m7 Try.sizeOf38 rfl rfl (by simp [Value.cells, Value.oneCell']) rfl rfl ?_
          intro w8 m8
          refine WL.assign rfl rfl ?_
          refine WL.assign rfl rfl ?_
          refine WL.nil ?_
          refine WX.next ?_
          refine W.sub [(0, _), (1, _), (2, _), (3, _), (12, _), (13, _), (14, _), (15, _), (16, _)] (.cons rfl (.cons rfl (.cons rfl (.cons rfl (.cons rfl (.cons rfl (.cons rfl (.cons rfl (.cons rfl .nil))))))))) ?_
          refine W.seq ?_
          refine W.seq ?_
          refine W.region ?_
          refine WL.move rfl rfl ?_
          refine WL.move rfl rfl ?_
          refine WL.len Try.underlying22 rfl rfl ?_
          refine WL.leq rfl rfl rfl ?_
          refine WL.moveIf rfl rfl (fun c5 => ?_) (fun c5 => ?_)
          · refine WL.on rfl rfl ?_
            refine WL.move rfl rfl ?_
            refine WL.on rfl rfl ?_
            refine WL.move rfl rfl ?_
            refine WL.on rfl rfl ?_
            refine WL.len Try.underlying22 rfl rfl ?_
            refine WL.on rfl rfl ?_
            refine WL.neI rfl rfl rfl ?_
            refine WL.pickT rfl rfl rfl ?_
            refine WL.moveIf rfl rfl (fun c6 => ?_) (fun c6 => ?_)
            · exact absurd (g2 (by omega)) c6
            · refine WL.on rfl rfl ?_
              refine WL.move rfl rfl ?_
              refine WL.on rfl rfl ?_
              refine WL.lss rfl rfl rfl ?_
              refine WL.pickF rfl rfl rfl ?_
              refine WL.moveIf rfl rfl (fun c7 => ?_) (fun c7 => ?_)
              · exact absurd c7 (by omega)
              · refine WL.on rfl rfl ?_
                refine WL.move rfl rfl ?_
                refine WL.on rfl rfl ?_
                refine WL.move rfl rfl ?_
                refine WL.on rfl rfl ?_
                refine WL.len Try.underlying22 rfl rfl ?_
                refine WL.on rfl rfl ?_
                refine WL.gtr rfl rfl rfl ?_
                refine WL.pickF rfl rfl rfl ?_
                refine WL.nil ?_
                refine WX.next ?_
                refine W.sub [(1, _), (2, _), (12, _), (14, _), (15, _), (16, _), (82, _)] (.cons rfl (.cons rfl (.cons rfl (.cons rfl (.cons rfl (.cons rfl (.cons rfl .nil))))))) ?_
                refine W.ite rfl (fun c8 => ?_) (fun c8 => ?_)
                · exact absurd c8 (by omega)
                · refine W.skip ?_
                  refine WX.next ?_
                  refine W.seq ?_
                  refine W.region ?_
                  refine WL.move rfl rfl ?_
                  refine WL.eqI rfl rfl rfl ?_
                  refine WL.moveIf rfl rfl (fun c9 => ?_) (fun c9 => ?_)
                  · refine WL.on rfl rfl ?_
                    refine WL.fieldAddr Try.underlying38 rfl rfl (fun _ => by first | rfl | simp [fieldPlace]) rfl ?_
                    refine WL.on rfl rfl ?_
                    refine WL.load Try.isAgg5 rfl ((m8.nth 0 rfl).cells 0 _ rfl) rfl ?_
                    refine WL.on rfl rfl ?_
                    refine WL.move rfl rfl ?_
                    refine WL.on rfl rfl ?_
                    refine WL.eqI rfl rfl rfl ?_
                    refine WL.pickT rfl rfl rfl ?_
                    refine WL.moveIf rfl rfl (fun c10 => ?_) (fun c10 => ?_)
                    · refine WL.on rfl rfl ?_
                      refine WL.fieldAddr Try.underlying38 rfl rfl (fun _ => by first | rfl | simp [fieldPlace]) rfl ?_
                      refine WL.on rfl rfl ?_
                      refine WL.load Try.isAgg22 rfl ((m8.nth 0 rfl).cells 1 _ rfl) rfl ?_
                      refine WL.on rfl rfl ?_
                      refine WL.move rfl rfl ?_
                      refine WL.on rfl rfl ?_
                      refine WL.call Try.call17 rfl (Same_ok (l1 := l) (l2 := l) (m8.nth 1 rfl).rdOwnB (hb.mem m8)) rfl ?_
                      rintro _ _ ⟨rfl, rfl⟩
                      refine WL.pickT rfl rfl rfl ?_
                      refine WL.moveIf rfl rfl (fun c11 => ?_) (fun c11 => ?_)
                      · refine WL.on rfl rfl ?_
                        refine WL.move rfl rfl ?_
                        refine WL.on rfl rfl ?_
                        refine WL.move rfl rfl ?_
                        refine WL.on rfl rfl ?_
                        refine WL.len Try.underlying22 rfl rfl ?_
                        refine WL.on rfl rfl ?_
                        refine WL.eqI rfl rfl rfl ?_
                        refine WL.pickT rfl rfl rfl ?_
                        refine WL.moveIf rfl rfl (fun c12 => ?_) (fun c12 => ?_)
                        · refine WL.on rfl rfl ?_
                          refine WL.move rfl rfl ?_
                          refine WL.on rfl rfl ?_
                          refine WL.move rfl rfl ?_
                          refine WL.on rfl rfl ?_
                          refine WL.len Try.underlying22 rfl rfl ?_
                          refine WL.on rfl rfl ?_
                          refine WL.call Try.call22 rfl (Seek_ok (a ++ p) A4 cap4 ((a ++ p).length : Int) w8 (m8.nth 2 rfl).rdOwnB (by omega) (by omega)) rfl ?_
                          rintro _ w9 ⟨rfl, m9⟩
                          have M9 := m8.call m9
                          refine WL.on rfl rfl ?_
                          refine WL.move rfl rfl ?_
                          refine WL.on rfl rfl ?_
                          refine WL.len Try.underlying22 rfl rfl ?_
                          refine WL.on rfl rfl ?_
                          refine WL.eqI rfl rfl rfl ?_
                          refine WL.pickT rfl rfl rfl ?_
                          refine WL.moveIf rfl rfl (fun c13 => ?_) (fun c13 => ?_)
                          · refine WL.on rfl rfl ?_
                            refine WL.call Try.call10 rfl (known2_ok w9) rfl ?_
                            rintro _ w10 ⟨rfl, m10⟩
                            refine WL.pickT rfl rfl rfl ?_
                            refine WL.assign rfl rfl ?_
                            refine WL.nil ?_
                            refine WX.next ?_
                            refine W.sub [(8, _)] (.cons rfl .nil) ?_
                            refine W.ret ?_
                            refine WX.ret1 rfl rfl ?_
                            exact ⟨by simp, (M9.call m10).nil⟩
                          · exact absurd g4 c13
                        · exact absurd (by dsimp only; omega) c12
                      · exact absurd rfl c11
                    · exact absurd rfl c10
                  · exact absurd rfl c9
          · refine WL.off rfl rfl rfl rfl ?_
            refine WL.off rfl rfl rfl rfl ?_
            refine WL.off rfl rfl rfl rfl ?_
            refine WL.off rfl rfl rfl rfl ?_
            refine WL.pickF rfl rfl rfl ?_
            refine WL.move rfl rfl ?_
            refine WL.on rfl rfl ?_
            refine WL.move rfl rfl ?_
            refine WL.on rfl rfl ?_
            refine WL.lss rfl rfl rfl ?_
            refine WL.pickF rfl rfl rfl ?_
            refine WL.moveIf rfl rfl (fun c7 => ?_) (fun c7 => ?_)
            · exact absurd c7 (by omega)
            · refine WL.on rfl rfl ?_
              refine WL.move rfl rfl ?_
              refine WL.on rfl rfl ?_
              refine WL.move rfl rfl ?_
              refine WL.on rfl rfl ?_
              refine WL.len Try.underlying22 rfl rfl ?_
              refine WL.on rfl rfl ?_
              refine WL.gtr rfl rfl rfl ?_
              refine WL.pickF rfl rfl rfl ?_
              refine WL.nil ?_
              refine WX.next ?_
              refine W.sub [(1, _), (2, _), (12, _), (14, _), (15, _), (16, _), (82, _)] (.cons rfl (.cons rfl (.cons rfl (.cons rfl (.cons rfl (.cons rfl (.cons rfl .nil))))))) ?_
              refine W.ite rfl (fun c8 => ?_) (fun c8 => ?_)
              · exact absurd c8 (by omega)
              · refine W.skip ?_
                refine WX.next ?_
                refine W.seq ?_
                refine W.region ?_
                refine WL.move rfl rfl ?_
                refine WL.eqI rfl rfl rfl ?_
                refine WL.moveIf rfl rfl (fun c9 => ?_) (fun c9 => ?_)
                · refine WL.on rfl rfl ?_
                  refine WL.fieldAddr Try.underlying38 rfl rfl (fun _ => by first | rfl | simp [fieldPlace]) rfl ?_
                  refine WL.on rfl rfl ?_
                  refine WL.load Try.isAgg5 rfl ((m8.nth 0 rfl).cells 0 _ rfl) rfl ?_
                  refine WL.on rfl rfl ?_
                  refine WL.move rfl rfl ?_
                  refine WL.on rfl rfl ?_
                  refine WL.eqI rfl rfl rfl ?_
                  refine WL.pickT rfl rfl rfl ?_
                  refine WL.moveIf rfl rfl (fun c10 => ?_) (fun c10 => ?_)
                  · refine WL.on rfl rfl ?_
                    refine WL.fieldAddr Try.underlying38 rfl rfl (fun _ => by first | rfl | simp [fieldPlace]) rfl ?_
                    refine WL.on rfl rfl ?_
                    refine WL.load Try.isAgg22 rfl ((m8.nth 0 rfl).cells 1 _ rfl) rfl ?_
                    refine WL.on rfl rfl ?_
                    refine WL.move rfl rfl ?_
                    refine WL.on rfl rfl ?_
                    refine WL.call Try.call17 rfl (Same_ok (l1 := l) (l2 := l) (m8.nth 1 rfl).rdOwnB (hb.mem m8)) rfl ?_
                    rintro _ _ ⟨rfl, rfl⟩
                    refine WL.pickT rfl rfl rfl ?_
                    refine WL.moveIf rfl rfl (fun c11 => ?_) (fun c11 => ?_)
                    · refine WL.on rfl rfl ?_
                      refine WL.move rfl rfl ?_
                      refine WL.on rfl rfl ?_
                      refine WL.move rfl rfl ?_
                      refine WL.on rfl rfl ?_
                      refine WL.len Try.underlying22 rfl rfl ?_
                      refine WL.on rfl rfl ?_
                      refine WL.eqI rfl rfl rfl ?_
                      refine WL.pickT rfl rfl rfl ?_
                      refine WL.moveIf rfl rfl (fun c12 => ?_) (fun c12 => ?_)
                      · refine WL.on rfl rfl ?_
                        refine WL.move rfl rfl ?_
                        refine WL.on rfl rfl ?_
                        refine WL.move rfl rfl ?_
                        refine WL.on rfl rfl ?_
                        refine WL.len Try.underlying22 rfl rfl ?_
                        refine WL.on rfl rfl ?_
                        refine WL.call Try.call22 rfl (Seek_ok (a ++ p) A4 cap4 ((a ++ p).length : Int) w8 (m8.nth 2 rfl).rdOwnB (by omega) (by omega)) rfl ?_
                        rintro _ w9 ⟨rfl, m9⟩
                        have M9 := m8.call m9
                        refine WL.on rfl rfl ?_
                        refine WL.move rfl rfl ?_
                        refine WL.on rfl rfl ?_
                        refine WL.len Try.underlying22 rfl rfl ?_
                        refine WL.on rfl rfl ?_
                        refine WL.eqI rfl rfl rfl ?_
                        refine WL.pickT rfl rfl rfl ?_
                        refine WL.moveIf rfl rfl (fun c13 => ?_) (fun c13 => ?_)
                        · refine WL.on rfl rfl ?_
                          refine WL.call Try.call10 rfl (known2_ok w9) rfl ?_
                          rintro _ w10 ⟨rfl, m10⟩
                          refine WL.pickT rfl rfl rfl ?_
                          refine WL.assign rfl rfl ?_
                          refine WL.nil ?_
                          refine WX.next ?_
                          refine W.sub [(8, _)] (.cons rfl .nil) ?_
                          refine W.ret ?_
                          refine WX.ret1 rfl rfl ?_
                          exact ⟨by simp, (M9.call m10).nil⟩
                        · exact absurd g4 c13
                      · exact absurd (by dsimp only; omega) c12
                    · exact absurd rfl c11
                  · exact absurd rfl c10
                · exact absurd rfl c9
end Go.Proofs.Ytjfbloepomnibaa
