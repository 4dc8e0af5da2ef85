/-
  Walks: seawallref00: Same, Copy, Lent, Whole, Spoil.
-/
import Derived.Test.YtmogpoghngmnmaaProg
import Derived.Test.YtmogpoghngmnmaaDraw
import Derived.Test.YtmogpoghngmnmaaElem
namespace Go.Proofs.Ytmogpoghngmnmaa
open Go Go.RowKit

theorem Same_ok {A1 A2 : Option Addr} {c1 c2 : Nat} {l1 l2 : List UInt8} {w : World} (h1 : RdB w A1 c1 l1) (h2 : RdB w A2 c2 l2) :
    Fn Try.prog 13 [.slice A1 l1.length c1, .slice A2 l2.length c2] w fun v w' => v = .bool (decide (l1 = l2)) ∧ w = w' := by
  refine Fn.enter Try.func13 rfl Try.ntmps13 rfl ?_
  refine W.sub [(0, _), (1, _)] (.cons rfl (.cons rfl .nil)) ?_
  refine W.seq ?_
  refine W.region ?_
  refine WL.assign rfl rfl ?_
  refine WL.nil ?_
  refine WX.next ?_
  refine W.sub [(0, _), (1, _)] (.cons rfl (.cons rfl .nil)) ?_
  refine W.seq ?_
  refine W.region ?_
  refine WL.move rfl rfl ?_
  refine WL.toStr Try.underlying32 Try.underlying5 Try.underlying9 rfl h1 rfl rfl ?_
  refine WL.move rfl rfl ?_
  refine WL.toStr Try.underlying32 Try.underlying5 Try.underlying9 rfl h2 rfl rfl ?_
  refine WL.eqS rfl rfl rfl ?_
  refine WL.assign rfl rfl ?_
  refine WL.nil ?_
  refine WX.next ?_
  refine W.sub [(4, _)] (.cons rfl .nil) ?_
  refine W.ret ?_
  refine WX.ret1 rfl rfl ?_
  exact ⟨rfl, rfl⟩

theorem Copy_ok {A : Option Addr} {cap : Nat} {l : List UInt8} {w : World} (h : RdB w A cap l) (hl : l.length ≤ 140737488351232) :
    Fn Try.prog 45 [.slice A l.length cap] w fun v w' => ∃ A' cap', v = .slice A' l.length cap' ∧ Mem w w' [Asr.own 5 1 A' l.length cap' (bs l)] := by
  have m0 := (Mem.refl w).nilOwn 5 1
  refine Fn.enter Try.func45 rfl Try.ntmps45 rfl ?_
  refine W.sub [(0, _)] (.cons rfl .nil) ?_
  refine W.seq ?_
  refine W.region ?_
  refine WL.assign rfl rfl ?_
  refine WL.nil ?_
  refine WX.next ?_
  refine W.sub [(0, _)] (.cons rfl .nil) ?_
  refine W.seq ?_
  refine W.region ?_
  refine WL.assign rfl rfl ?_
  refine WL.nil ?_
  refine WX.next ?_
  refine W.sub [(0, _), (3, _)] (.cons rfl (.cons rfl .nil)) ?_
  refine W.seq ?_
  refine W.region ?_
  refine WL.move rfl rfl ?_
  refine WL.move rfl rfl ?_
  refine WL.appendB (l := []) Try.elem5 rfl rfl m0 h rfl rfl (by simp; omega) rfl ?_
  intro A2 cap2 w2 m2
  refine WL.assign rfl rfl ?_
  refine WL.nil ?_
  refine WX.next ?_
  refine W.sub [(2, _)] (.cons rfl .nil) ?_
  refine W.ret ?_
  refine WX.ret1 rfl rfl ?_
  exact ⟨A2, cap2, rfl, m2⟩

/-- What is lent: its bytes, the two marks behind them, and whatever room. -/
theorem Lent_ok {A : Option Addr} {cap : Nat} {l : List UInt8} {w : World} (h : RdB w A cap l) (hl : l.length ≤ 140737488351232) :
    Fn Try.prog 25 [.slice A l.length cap] w fun v w' => ∃ g sp, v = .slice (some ⟨g, 0, none⟩) l.length (bs (l ++ [91, 92]) ++ sp).length ∧ Mem w w' [Asr.row g 5 (bs (l ++ [91, 92]) ++ sp)] := by
  refine Fn.enter Try.func25 rfl Try.ntmps25 rfl ?_
  refine W.sub [(0, _)] (.cons rfl .nil) ?_
  refine W.seq ?_
  refine W.region ?_
  refine WL.assign rfl rfl ?_
  refine WL.nil ?_
  refine WX.next ?_
  refine W.sub [(0, _)] (.cons rfl .nil) ?_
  refine W.seq ?_
  refine W.region ?_
  refine WL.move rfl rfl ?_
  refine WL.call Try.call45 rfl (Copy_ok h hl) rfl ?_
  rintro _ w1 ⟨A1, cap1, rfl, m1⟩
  refine WL.assign rfl rfl ?_
  refine WL.nil ?_
  refine WX.next ?_
  refine W.sub [(0, _), (3, _)] (.cons rfl (.cons rfl .nil)) ?_
  refine W.seq ?_
  refine W.region ?_
  refine WL.move rfl rfl ?_
  refine WL.buildS Try.elem5 m1 rfl rfl rfl (by simp [Value.oneCell']) rfl rfl ?_
  intro g2 w2 m2
  refine WL.appendB Try.elem5 rfl rfl m2.f1 (m2.rdOwnB (l := [91, 92])) rfl rfl (by simp; omega) rfl ?_
  intro A3 cap3 w3 m3
  obtain ⟨g, sp, rfl, m4, hc, _, _, _⟩ := m3.drop1.ownRow (by
    rintro rfl
    have := m3.head.2
    rcases this with ⟨_, h0, _⟩ | ⟨_, _, h0, _⟩
    · simp at h0
    · cases h0)
  obtain rfl : cap3 = (bs (l ++ [91, 92]) ++ sp).length := by rw [hc]; simp
  refine WL.assign rfl rfl ?_
  refine WL.nil ?_
  refine WX.next ?_
  refine W.sub [(0, _), (3, _)] (.cons rfl (.cons rfl .nil)) ?_
  refine W.seq ?_
  refine W.region ?_
  refine WL.move rfl rfl ?_
  refine WL.move rfl rfl ?_
  refine WL.len Try.underlying32 rfl rfl ?_
  have hb : ((l.length : Int)) ≤ ((bs (l ++ [91, 92]) ++ sp).length : Nat) := by simp [bs]; omega
  refine WL.sliceUpTo Try.underlying32 Try.sizeOf5 rfl rfl (by omega) (by omega) rfl ?_
  refine WL.assign rfl rfl ?_
  refine WL.nil ?_
  refine WX.next ?_
  refine W.sub [(2, _)] (.cons rfl .nil) ?_
  refine W.ret ?_
  refine WX.ret1 rfl rfl ?_
  exact ⟨g, sp, by simp, m4⟩

/-- What was lent is as it was. -/
theorem Whole_ok {g : Nat} {sp : List Value} {A : Option Addr} {cap : Nat} {l : List UInt8} {w0 w : World} {L : List Asr} (M : Mem w0 w (Asr.row g 5 (bs (l ++ [91, 92]) ++ sp) :: L)) (h : RdB w A cap l) (hl : l.length ≤ 140737488351232) :
    Fn Try.prog 27 [.slice (some ⟨g, 0, none⟩) l.length (bs (l ++ [91, 92]) ++ sp).length, .slice A l.length cap] w fun v w' => v = .bool true ∧ w = w' := by
  have hlen : (bs (l ++ [91, 92]) ++ sp).length = l.length + 2 + sp.length := by simp [bs]; omega
  have hx : RdB w (some ⟨g, 0, none⟩) (bs (l ++ [91, 92]) ++ sp).length l := RdB.row M 0 (by
    rw [bs_append, List.drop_zero, List.append_assoc, List.take_append_of_le_length (by simp [bs]), List.take_of_length_le (by simp [bs])]) (by rw [hlen]; omega)
  have h91 : (bs (l ++ [91, 92]) ++ sp)[l.length]? = some (.int .u8 91) := by
    rw [bs_append, List.append_assoc, List.getElem?_append_right (by simp [bs])]
    simp [bs, bv]
  have h92 : (bs (l ++ [91, 92]) ++ sp)[l.length + 1]? = some (.int .u8 92) := by
    rw [bs_append, List.append_assoc, List.getElem?_append_right (by simp [bs])]
    simp [bs, bv]
  refine Fn.enter Try.func27 rfl Try.ntmps27 rfl ?_
  refine W.sub [(0, _), (1, _)] (.cons rfl (.cons rfl .nil)) ?_
  refine W.seq ?_
  refine W.region ?_
  refine WL.assign rfl rfl ?_
  refine WL.nil ?_
  refine WX.next ?_
  refine W.sub [(0, _), (1, _)] (.cons rfl (.cons rfl .nil)) ?_
  refine W.seq ?_
  refine W.seq ?_
  refine W.region ?_
  refine WL.move rfl rfl ?_
  refine WL.len Try.underlying32 rfl rfl ?_
  refine WL.move rfl rfl ?_
  refine WL.len Try.underlying32 rfl rfl ?_
  refine WL.neI rfl rfl rfl ?_
  refine WL.nil ?_
  refine WX.next ?_
  refine W.sub [(0, _), (1, _), (10, _)] (.cons rfl (.cons rfl (.cons rfl .nil))) ?_
  refine W.ite rfl (fun c0 => ?_) (fun c0 => ?_)
  · exact absurd rfl c0
  · refine W.skip ?_
    refine WX.next ?_
    refine W.seq ?_
    refine W.region ?_
    refine WL.move rfl rfl ?_
    refine WL.move rfl rfl ?_
    refine WL.len Try.underlying32 rfl rfl ?_
    refine WL.add rfl rfl (by first | exact wI64 (by omega) | rfl) rfl ?_
    rw [hlen]
    refine WL.sliceUpTo Try.underlying32 Try.sizeOf5 rfl rfl (by omega) (by omega) rfl ?_
    refine WL.assign rfl rfl ?_
    refine WL.nil ?_
    refine WX.next ?_
    refine W.sub [(0, _), (1, _), (5, _)] (.cons rfl (.cons rfl (.cons rfl .nil))) ?_
    refine W.seq ?_
    refine W.region ?_
    refine WL.move rfl rfl ?_
    refine WL.move rfl rfl ?_
    refine WL.len Try.underlying32 rfl rfl ?_
    refine WL.idxAt (o' := l.length) Try.underlying32 Try.sizeOf5 rfl rfl (by omega) (by omega) (by omega) rfl ?_
    refine WL.load Try.isAgg5 rfl ((M.cell _).trans h91) rfl ?_
    refine WL.eqI rfl rfl rfl ?_
    refine WL.moveIf rfl rfl (fun c1 => ?_) (fun c1 => ?_)
    · refine WL.on rfl rfl ?_
      refine WL.move rfl rfl ?_
      refine WL.on rfl rfl ?_
      refine WL.move rfl rfl ?_
      refine WL.on rfl rfl ?_
      refine WL.len Try.underlying32 rfl rfl ?_
      refine WL.on rfl rfl ?_
      refine WL.add rfl rfl (by first | exact wI64 (by omega) | rfl) rfl ?_
      refine WL.on rfl rfl ?_
      refine WL.idxAt (o' := l.length + 1) Try.underlying32 Try.sizeOf5 rfl rfl (by omega) (by omega) (by omega) rfl ?_
      refine WL.on rfl rfl ?_
      refine WL.load Try.isAgg5 rfl ((M.cell _).trans h92) rfl ?_
      refine WL.on rfl rfl ?_
      refine WL.eqI rfl rfl rfl ?_
      refine WL.pickT rfl rfl rfl ?_
      refine WL.moveIf rfl rfl (fun c2 => ?_) (fun c2 => ?_)
      · refine WL.on rfl rfl ?_
        refine WL.move rfl rfl ?_
        refine WL.on rfl rfl ?_
        refine WL.toStr Try.underlying32 Try.underlying5 Try.underlying9 rfl (hlen ▸ hx) rfl rfl ?_
        refine WL.on rfl rfl ?_
        refine WL.move rfl rfl ?_
        refine WL.on rfl rfl ?_
        refine WL.toStr Try.underlying32 Try.underlying5 Try.underlying9 rfl h rfl rfl ?_
        refine WL.on rfl rfl ?_
        refine WL.eqS rfl rfl rfl ?_
        refine WL.pickT rfl rfl rfl ?_
        refine WL.assign rfl rfl ?_
        refine WL.nil ?_
        refine WX.next ?_
        refine W.sub [(4, _)] (.cons rfl .nil) ?_
        refine W.ret ?_
        refine WX.ret1 rfl rfl ?_
        exact ⟨by simp, rfl⟩
      · exact absurd rfl c2
    · exact absurd rfl c1

theorem Spoil_ok {g cap : Nat} {rest : List Value} {l : List UInt8} {w0 w : World} {L : List Asr} (M : Mem w0 w (Asr.row g 5 (bs l ++ rest) :: L)) (hl : l.length ≤ 140737488351232) :
    Fn Try.prog 24 [.slice (some ⟨g, 0, none⟩) l.length cap] w fun v w' => ∃ l', l'.length = l.length ∧ Mem w0 w' (Asr.row g 5 (bs l' ++ rest) :: L) := by
  refine Fn.enter Try.func24 rfl Try.ntmps24 rfl ?_
  refine W.sub [(0, _)] (.cons rfl .nil) ?_
  refine W.seq ?_
  refine W.region ?_
  refine WL.assign rfl rfl ?_
  refine WL.nil ?_
  refine WX.next ?_
  refine W.sub [(0, _), (2, _)] (.cons rfl (.cons rfl .nil)) ?_
  refine W.block ?_
  refine W.loop (ι := Nat × List UInt8) (fun x => [(0, .slice (some ⟨g, 0, none⟩) l.length cap), (2, .int .i64 (x.1 : Int))]) (fun x w' => x.1 ≤ l.length ∧ x.2.length = l.length ∧ Mem w0 w' (Asr.row g 5 (bs x.2 ++ rest) :: L)) (fun x => l.length - x.1) ((0, l)) (by (repeat' (first | exact envSub.nil | refine envSub.cons ?_ ?_)) <;> first | rfl | (refine congrArg some ?_; refine congrArg (Value.int _) ?_; first | omega | (dsimp only; omega)) | (simp; done) | (refine congrArg some ?_; dsimp only; congr 1; omega) | (simp; omega)) ⟨by simp, rfl, M⟩ ?_
  rintro ⟨k, l'⟩ w1 ⟨hk, hl', M1⟩; dsimp only at hk hl' M1
  refine W.sub [(0, _), (2, _)] (.cons rfl (.cons rfl .nil)) ?_
  refine W.seq ?_
  refine W.seq ?_
  refine W.region ?_
  refine WL.move rfl rfl ?_
  refine WL.move rfl rfl ?_
  refine WL.len Try.underlying32 rfl rfl ?_
  refine WL.lss rfl rfl rfl ?_
  refine WL.nil ?_
  refine WX.next ?_
  refine W.sub [(0, _), (2, _), (6, _)] (.cons rfl (.cons rfl (.cons rfl .nil))) ?_
  refine W.ite rfl (fun c0 => ?_) (fun c0 => ?_)
  · refine W.skip ?_
    refine WX.next ?_
    refine W.seq ?_
    refine W.block ?_
    refine W.region ?_
    refine WL.move rfl rfl ?_
    refine WL.move rfl rfl ?_
    refine WL.move rfl rfl ?_
    refine WL.move rfl rfl ?_
    refine WL.idxAt (o' := k) Try.underlying32 Try.sizeOf5 rfl rfl (by omega) (by omega) (by omega) rfl ?_
    have hkL : k < l'.length := by omega
    have hc : (bs l' ++ rest)[k]? = some (bv l'[k]) := by
      rw [List.getElem?_append_left (by simp [bs]; omega), bs_get, List.getElem?_eq_getElem hkL]
      rfl
    have hc8 := UInt8.toNat_lt l'[k]
    refine WL.load Try.isAgg5 rfl ((M1.cell _).trans hc) rfl ?_
    refine WL.bxor rfl rfl (xorU8 _ 165 (by omega) (by omega)) rfl ?_
    refine WL.idxAt (o' := k) Try.underlying32 Try.sizeOf5 rfl rfl (by omega) (by omega) (by omega) rfl ?_
    refine WL.store M1 Try.sizeOf5 rfl rfl rfl (by simp [bs]; omega) ?_
    intro w2 M2
    have hx8 : (l'[k].toNat ^^^ 165) < 256 := Nat.xor_lt_two_pow (n := 8) hc8 (by decide)
    rw [bv_ofNat hx8, List.set_append, if_pos (by simp [bs]; omega), bs_set] at M2
    refine WL.nil ?_
    refine WX.blockNormal ?_
    refine WX.next ?_
    refine W.sub [(0, _), (2, _)] (.cons rfl (.cons rfl .nil)) ?_
    refine W.region ?_
    refine WL.move rfl rfl ?_
    refine WL.add rfl rfl (by first | exact wI64 (by omega) | rfl) rfl ?_
    refine WL.assign rfl rfl ?_
    refine WL.nil ?_
    refine WX.round ((k + 1, l'.set k (UInt8.ofNat (l'[k].toNat ^^^ 165)))) (by (repeat' (first | exact envSub.nil | refine envSub.cons ?_ ?_)) <;> first | rfl | (refine congrArg some ?_; refine congrArg (Value.int _) ?_; first | omega | (dsimp only; omega)) | (simp; done) | (refine congrArg some ?_; dsimp only; congr 1; omega) | (simp; omega)) ⟨by dsimp only; omega, by simpa using hl', M2⟩ (by first | omega | (dsimp only; omega))
  · refine W.exit ?_
    refine WX.thenExit ?_
    refine WX.thenExit ?_
    refine WX.blockHere ?_
    refine WX.end0 rfl ?_
    exact ⟨l', hl', M1⟩
end Go.Proofs.Ytmogpoghngmnmaa
