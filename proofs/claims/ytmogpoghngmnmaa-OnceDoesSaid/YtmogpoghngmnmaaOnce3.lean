/-
  Walks: New, Begin, End (once).
-/
import Derived.Test.YtmogpoghngmnmaaOnceLaw
import Derived.Test.YtmogpoghngmnmaaLists3
namespace Go.Proofs.Ytmogpoghngmnmaa
open Go Go.RowKit

section
variable {w0 w : World} {L L' : List Asr}
theorem aAddM_ok {g o : Nat} {z s : Int} {t : TypeId} {cs cs' : List Value} (M : Mem w0 w L) (h : Has (Asr.row g t cs) L) (hc : cs[o]? = some (.int .i64 z)) (hs : IntKind.i64.wrap (z + 1) = s) (hset : SetAt (.int .i64 s) cs o cs') (hu : Upd (Asr.row g t cs) (Asr.row g t cs') L L') :
    Fn Try.prog 32 [.pointer (some ⟨g, o, none⟩), .int .i64 1] w fun _ w' => Mem w0 w' L' := by
  obtain ⟨L1, hd⟩ := h.del
  refine (aAdd_ok (z := z) (s := s) (by rw [M.cellH h, hc]) ((M.del hd).frozen o) hs).mono ?_
  rintro v w' ⟨rfl, rfl⟩
  refine M.upd hu fun K hK => ?_
  have := hK.set o (.int .i64 s)
  rwa [hset.eq] at this
theorem aLoadM_ok {g o : Nat} {z : Int} {t : TypeId} {cs : List Value} (M : Mem w0 w L) (h : Has (Asr.row g t cs) L) (hc : cs[o]? = some (.int .i64 z)) :
    Fn Try.prog 35 [.pointer (some ⟨g, o, none⟩)] w fun v w' => v = .int .i64 z ∧ w' = w :=
  aLoad_ok (by rw [M.cellH h, hc])
end

theorem onceNewBad_ok (z : Int) (hz : z < 1 ∨ 64 < z) (w0 : World) : Fn Try.prog 11 [.int .i64 z] w0 fun v w' => v = .tuple #[.pointer none, .int .i64 2] ∧ Mem w0 w' [] := by
  have M := Mem.refl w0
  obtain ⟨w, hw⟩ : ∃ w, w = w0 := ⟨w0, rfl⟩
  refine Fn.enter Try.func11 rfl Try.ntmps11 rfl ?_
  refine W.sub [(0, _)] (.cons rfl .nil) ?_
  refine W.seq ?_
  refine W.region ?_
  refine WL.assign rfl rfl ?_
  refine WL.assign rfl rfl ?_
  refine WL.nil ?_
  refine WX.next ?_
  refine W.sub [(0, _)] (.cons rfl .nil) ?_
  refine W.seq ?_
  refine W.seq ?_
  refine W.region ?_
  refine WL.move rfl rfl ?_
  refine WL.lss rfl rfl rfl ?_
  refine WL.moveIf rfl rfl (fun c0 => ?_) (fun c0 => ?_)
  · refine WL.off rfl rfl rfl rfl ?_
    refine WL.off rfl rfl rfl rfl ?_
    refine WL.pickT rfl rfl rfl ?_
    refine WL.nil ?_
    refine WX.next ?_
    refine W.sub [(0, _), (9, _)] (.cons rfl (.cons rfl .nil)) ?_
    refine W.condT rfl ?_
    refine W.seq ?_
    refine W.region ?_
    refine WL.assign rfl rfl ?_
    refine WL.assign rfl rfl ?_
    refine WL.nil ?_
    refine WX.next ?_
    refine W.sub [(2, _), (3, _)] (.cons rfl (.cons rfl .nil)) ?_
    refine W.ret ?_
    refine WX.thenRet ?_
    refine WX.ret2 rfl rfl rfl ?_
    exact ⟨rfl, M⟩
  · refine WL.on rfl rfl ?_
    refine WL.move rfl rfl ?_
    refine WL.on rfl rfl ?_
    refine WL.gtr rfl rfl rfl ?_
    refine WL.pickF rfl rfl rfl ?_
    refine WL.nil ?_
    refine WX.next ?_
    refine W.sub [(0, _), (9, _)] (.cons rfl (.cons rfl .nil)) ?_
    refine W.ite rfl (fun c1 => ?_) (fun c1 => ?_)
    · refine W.seq ?_
      refine W.region ?_
      refine WL.assign rfl rfl ?_
      refine WL.assign rfl rfl ?_
      refine WL.nil ?_
      refine WX.next ?_
      refine W.sub [(2, _), (3, _)] (.cons rfl (.cons rfl .nil)) ?_
      refine W.ret ?_
      refine WX.thenRet ?_
      refine WX.ret2 rfl rfl rfl ?_
      exact ⟨rfl, M⟩
    · exact absurd c1 (by omega)
theorem newT_ok {n : Nat} (hn : 1 ≤ n ∧ n ≤ 64) : Tb.ok ⟨n, [], 0, 0⟩ := ⟨hn, by simp, by simp, by simp⟩
theorem onceNew_ok (n : Nat) (hn : 1 ≤ n ∧ n ≤ 64) (w0 : World) : Fn Try.prog 11 [.int .i64 (n : Int)] w0 fun v w' => ∃ x : OT, v = .tuple #[.pointer (some ⟨x.g, 0, none⟩), .int .i64 0] ∧ x.s = ⟨n, [], 0, 0⟩ ∧ x.ok ∧ Mem w0 w' x.L := by
  have M := Mem.refl w0
  obtain ⟨w, hw⟩ : ∃ w, w = w0 := ⟨w0, rfl⟩
  refine Fn.enter Try.func11 rfl Try.ntmps11 rfl ?_
  refine W.sub [(0, _)] (.cons rfl .nil) ?_
  refine W.seq ?_
  refine W.region ?_
  refine WL.assign rfl rfl ?_
  refine WL.assign rfl rfl ?_
  refine WL.nil ?_
  refine WX.next ?_
  refine W.sub [(0, _)] (.cons rfl .nil) ?_
  refine W.seq ?_
  refine W.seq ?_
  refine W.region ?_
  refine WL.move rfl rfl ?_
  refine WL.lss rfl rfl rfl ?_
  refine WL.moveIf rfl rfl (fun c0 => ?_) (fun c0 => ?_)
  · refine WL.off rfl rfl rfl rfl ?_
    refine WL.off rfl rfl rfl rfl ?_
    refine WL.pickT rfl rfl rfl ?_
    refine WL.nil ?_
    refine WX.next ?_
    refine W.sub [(0, _), (9, _)] (.cons rfl (.cons rfl .nil)) ?_
    refine W.condT rfl ?_
    refine W.seq ?_
    refine W.region ?_
    refine WL.assign rfl rfl ?_
    refine WL.assign rfl rfl ?_
    refine WL.nil ?_
    refine WX.next ?_
    refine W.sub [(2, _), (3, _)] (.cons rfl (.cons rfl .nil)) ?_
    refine W.ret ?_
    refine WX.thenRet ?_
    refine WX.ret2 rfl rfl rfl ?_
    exact absurd hn (by omega)
  · refine WL.on rfl rfl ?_
    refine WL.move rfl rfl ?_
    refine WL.on rfl rfl ?_
    refine WL.gtr rfl rfl rfl ?_
    refine WL.pickF rfl rfl rfl ?_
    refine WL.nil ?_
    refine WX.next ?_
    refine W.sub [(0, _), (9, _)] (.cons rfl (.cons rfl .nil)) ?_
    refine W.ite rfl (fun c1 => ?_) (fun c1 => ?_)
    · refine W.seq ?_
      refine W.region ?_
      refine WL.assign rfl rfl ?_
      refine WL.assign rfl rfl ?_
      refine WL.nil ?_
      refine WX.next ?_
      refine W.sub [(2, _), (3, _)] (.cons rfl (.cons rfl .nil)) ?_
      refine W.ret ?_
      refine WX.thenRet ?_
      refine WX.ret2 rfl rfl rfl ?_
      exact absurd hn (by omega)
    · refine W.skip ?_
      refine WX.next ?_
      refine W.seq ?_
      refine W.region ?_
      refine WL.move rfl rfl ?_
      refine WL.buildP (places := #[(0, 3), (3, 1)]) Try.underlying83 Try.zeroValue83 (fun _ => by simp [Try.sizeOf80, Try.sizeOf81]) rfl (by repeat (first | exact Puts.nil | exact SetAt.zero | apply SetAt.succ | apply Puts.cons rfl rfl)) rfl ?_
      refine WL.box rfl M rfl ?_
      intro g3_2 w M
      try simp only [Value.cells] at M
      try simp only [List.toList_toArray] at M
      refine WL.buildP (places := #[(0, 1), (1, 1), (2, 1), (3, 1), (4, 1)]) Try.underlying88 Try.zeroValue88 (fun _ => by simp [Try.sizeOf3, Try.sizeOf41, Try.sizeOf68, Try.sizeOf86, Try.sizeOf86]) rfl (by repeat (first | exact Puts.nil | exact SetAt.zero | apply SetAt.succ | apply Puts.cons rfl rfl)) rfl ?_
      refine WL.box rfl M rfl ?_
      intro g3_4 w M
      try simp only [Value.cells] at M
      try simp only [List.toList_toArray] at M
      refine WL.assign rfl rfl ?_
      refine WL.assign rfl rfl ?_
      refine WL.nil ?_
      refine WX.next ?_
      refine W.sub [(2, _), (3, _)] (.cons rfl (.cons rfl .nil)) ?_
      refine W.ret ?_
      refine WX.ret2 rfl rfl rfl ?_
      have M2 := Mem.star1 (M.sel (K := Asr.row g3_2 83 [.int .u32 0, .int .i32 0, .int .u32 0, .map none] :: Asr.row g3_4 88 [.int .i64 (n : Int), .slice none 0 0, .pointer (some ⟨g3_2, 0, none⟩), .int .i64 0, .int .i64 0] :: []) (by first | ((repeat (first | with_reducible exact Sel.refl | with_reducible exact Sel.nil | with_reducible exact Del.here | with_reducible apply Del.there | with_reducible apply Sel.cons | with_reducible apply Sel.drop)); done) | (repeat (first | exact Sel.refl | exact Sel.nil | exact Del.here | apply Del.there | apply Sel.cons | apply Sel.drop))))
      have M3 := Mem.starNil (Mem.nilOwn M2 45 4)
      exact ⟨⟨g3_4, n, none, 0, [], g3_2, none, 0, 0⟩, rfl, rfl, ⟨newT_ok hn, fun p hp => by cases hp⟩, M3.sel (by first | ((repeat (first | with_reducible exact Sel.refl | with_reducible exact Sel.nil | with_reducible exact Del.here | with_reducible apply Del.there | with_reducible apply Sel.cons | with_reducible apply Sel.drop)); done) | (repeat (first | exact Sel.refl | exact Sel.nil | exact Del.here | apply Del.there | apply Sel.cons | apply Sel.drop)))⟩
end Go.Proofs.Ytmogpoghngmnmaa
