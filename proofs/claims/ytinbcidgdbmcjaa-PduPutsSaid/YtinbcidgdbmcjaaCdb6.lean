/-
  Walk: the document's command of bytes (seawallref19.Parse).
-/
import Derived.Test.YtinbcidgdbmcjaaCdb5
namespace Go.Proofs.Ytinbcidgdbmcjaa
open Go Go.RowKit Bin

set_option maxRecDepth 10000 in
set_option maxHeartbeats 2000000 in
theorem refParse_ok {A : Option Addr} {cap : Nat} {b : List UInt8} (hl : b.length ≤ 1000000) {w0 : World} (h : RdB w0 A cap b) :
    Fn Try.prog 39 [.slice A b.length cap] w0 fun v w' => v = .tuple #[(prsC b).v, .int .i64 (prsE b)] ∧ Mem w0 w' [] := by
  have M := Mem.refl w0
  obtain ⟨w, hw⟩ : ∃ w, w = w0 := ⟨w0, rfl⟩
  have hcap : b.length ≤ cap := Rd.le h
  have bad : ∀ (e : Int) (w : World) (L : List Asr), Mem w0 w L → e ≠ 0 → prsE b = e → Value.tuple #[CmX.v ⟨0, 0, 0, 0⟩, .int .i64 e] = .tuple #[(prsC b).v, .int .i64 (prsE b)] ∧ Mem w0 w [] := by
    intro e w L M he hp
    exact ⟨by rw [prsE_bad hp he, hp], M.sel (.nil)⟩
  refine Fn.enter Try.func39 rfl Try.ntmps39 rfl ?_
  refine W.sub [(0, _)] (.cons rfl .nil) ?_
  refine W.seq ?_
  refine W.region ?_
  refine WL.alloc Try.zeroValue36 M rfl ?_
  intro g0_0 w M
  try simp only [Value.cells] at M
  try simp only [List.toList_toArray] at M
  refine WL.assign rfl rfl ?_
  refine WL.nil ?_
  refine WX.next ?_
  refine W.sub [(0, _), (2, _)] (.cons rfl (.cons rfl .nil)) ?_
  refine W.seq ?_
  refine W.seq ?_
  refine W.region ?_
  refine WL.move rfl rfl ?_
  refine WL.len Try.underlying25 rfl rfl ?_
  refine WL.lss rfl rfl rfl ?_
  refine WL.nil ?_
  refine WX.next ?_
  refine W.sub [(0, _), (2, _), (9, _)] (.cons rfl (.cons rfl (.cons rfl .nil))) ?_
  refine W.ite rfl (fun c0 => ?_) (fun c0 => ?_)
  · refine W.seq ?_
    refine W.region ?_
    refine WL.buildP (places := #[(0, 1), (1, 1), (2, 1), (3, 1)]) Try.underlying36 Try.zeroValue36 (fun _ => by simp [Try.sizeOf3, Try.sizeOf22, Try.sizeOf3, Try.sizeOf3]) rfl (by repeat (first | exact Puts.nil | exact SetAt.zero | apply SetAt.succ | apply Puts.cons rfl rfl)) rfl ?_
    refine WL.storeWA Try.sizeOf36 rfl rfl (by repeat (first | exact oneNil | refine oneCons rfl ?_)) rfl rfl M (by first | ((repeat (first | with_reducible exact Upd.here | with_reducible apply Upd.there)); done) | (repeat (first | exact Upd.here | apply Upd.there))) ?_
    intro w M
    refine WL.assign rfl rfl ?_
    refine WL.nil ?_
    refine WX.next ?_
    refine W.sub [(2, _), (3, _)] (.cons rfl (.cons rfl .nil)) ?_
    refine W.ret ?_
    refine WX.thenRet ?_
    refine WX.retC2 (cs := [_, _, _, _]) rfl rfl rfl Try.isAgg36 (by exact Try.sizeOf36) (M.cellsH (by first | ((repeat (first | with_reducible exact Has.here | with_reducible refine Has.there ?_)); done) | (repeat (first | exact Has.here | refine Has.there ?_)))) ?_
    exact bad 10 _ _ M (by decide) (by unfold prsE; rw [if_pos (by omega)])
  · have h16 : 16 ≤ b.length := by omega
    have hE : prsE b = if kindC ((el (b.take 16) 0).toNat : Int) < 0 then 190 else if chkC (cmdOf (b.take 16)) ≠ 0 ∨ prB (cmdOf (b.take 16)) ≠ b.take 16 then 191 else 0 := by
      unfold prsE
      rw [if_neg (by omega)]
    have hC : prsE b = 0 → prsC b = cmdOf (b.take 16) := by
      intro h0
      unfold prsC
      rw [if_pos h0]
    have hR : RdB w0 A cap (b.take 16) := h.pre' h16
    have e0 : el (b.take 16) 0 = el b 0 := by simp [el, List.getElem?_take]
    obtain ⟨k0, k1, k2, k3, k4⟩ := cmdOf_kind (b.take 16)
    rw [e0] at hE k0 k1 k2 k3 k4
    rw [sub_take16 (by decide)] at k1
    rw [sub_take16 (by decide), sub_take16 (by decide)] at k2
    rw [sub_take16 (by decide), sub_take16 (by decide)] at k3
    rw [sub_take16 (by decide)] at k4
    obtain ⟨B, hB⟩ : ∃ B, b.take 16 = B := ⟨_, rfl⟩
    have hBl : B.length = 16 := by rw [← hB, List.length_take]; omega
    rw [hB] at hE hR hC k0 k1 k2 k3 k4
    have q0 := UInt8.toNat_lt (el b 0)
    have hin := cmdOf_inn hBl
    have hkk := kindC_cases ((el b 0).toNat : Int)
    refine W.skip ?_
    refine WX.next ?_
    refine W.seq ?_
    refine W.region ?_
    refine WL.move rfl rfl ?_
    refine WL.idxA (jn := 0) Try.underlying25 Try.sizeOf5 rfl rfl (RdB.isSome (h.mem M) (by omega)) (by omega) (by omega) (by first | exact rfl | exact (Int.toNat_of_nonneg (by omega)).symm) rfl ?_
    refine WL.loadB Try.isAgg5 rfl (h.mem M) (by omega) rfl ?_
    refine WL.conv Try.underlying5 Try.underlying3 rfl (by first | exact wI64 (by omega) | rfl) rfl ?_
    refine WL.buildP (places := #[(0, 1), (1, 1), (2, 1), (3, 1)]) Try.underlying36 Try.zeroValue36 (fun _ => by simp [Try.sizeOf3, Try.sizeOf22, Try.sizeOf3, Try.sizeOf3]) rfl (by repeat (first | exact Puts.nil | exact SetAt.zero | apply SetAt.succ | apply Puts.cons rfl rfl)) rfl ?_
    refine WL.alloc Try.zeroValue36 M rfl ?_
    intro g3_5 w M
    try simp only [Value.cells] at M
    try simp only [List.toList_toArray] at M
    refine WL.storeWA Try.sizeOf36 rfl rfl (by repeat (first | exact oneNil | refine oneCons rfl ?_)) rfl rfl M (by first | ((repeat (first | with_reducible exact Upd.here | with_reducible apply Upd.there)); done) | (repeat (first | exact Upd.here | apply Upd.there))) ?_
    intro w M
    refine WL.nil ?_
    refine WX.next ?_
    refine W.sub [(0, _), (2, _), (4, _)] (.cons rfl (.cons rfl (.cons rfl .nil))) ?_
    refine W.joint (fun (_ : Unit) => [(0, .slice A b.length cap), (2, .pointer (some ⟨g0_0, 0, none⟩)), (4, .pointer (some ⟨g3_5, 0, none⟩))]) (fun j w => Mem w0 w ((fun _ => [Asr.row g3_5 36 (cmdOf B).cells, Asr.row g0_0 36 (CmX.cells ⟨0, 0, 0, 0⟩)]) j) ∧ (fun _ => 0 ≤ kindC ((el b 0).toNat : Int)) j) ?_ ?_
    · refine W.seq ?_
      refine W.region ?_
      refine WL.fieldR (off := 0) Try.underlying36 rfl rfl Try.sizeOf3 rfl rfl rfl ?_
      refine WL.loadR Try.isAgg3 rfl M (by first | ((repeat (first | with_reducible exact Has.here | with_reducible refine Has.there ?_)); done) | (repeat (first | exact Has.here | refine Has.there ?_))) rfl rfl ?_
      refine WL.call Try.call45 rfl (refKind_ok ((el b 0).toNat : Int) _) rfl ?_
      rintro _ _ ⟨rfl, rfl⟩
      refine WL.nil ?_
      refine WX.next ?_
      refine W.sub [(0, _), (2, _), (4, _), (18, _)] (.cons rfl (.cons rfl (.cons rfl (.cons rfl .nil)))) ?_
      refine W.block ?_
      refine W.seq ?_
      refine W.region ?_
      refine WL.eqI rfl rfl rfl ?_
      refine WL.assign rfl rfl ?_
      refine WL.nil ?_
      refine WX.next ?_
      refine W.sub [(0, _), (2, _), (4, _), (18, _), (19, _)] (.cons rfl (.cons rfl (.cons rfl (.cons rfl (.cons rfl .nil))))) ?_
      refine W.ite rfl (fun c1 => ?_) (fun c1 => ?_)
      · refine W.seq ?_
        refine W.region ?_
        refine WL.buildP (places := #[(0, 1), (1, 1), (2, 1), (3, 1)]) Try.underlying36 Try.zeroValue36 (fun _ => by simp [Try.sizeOf3, Try.sizeOf22, Try.sizeOf3, Try.sizeOf3]) rfl (by repeat (first | exact Puts.nil | exact SetAt.zero | apply SetAt.succ | apply Puts.cons rfl rfl)) rfl ?_
        refine WL.storeWA Try.sizeOf36 rfl rfl (by repeat (first | exact oneNil | refine oneCons rfl ?_)) rfl rfl M (by first | ((repeat (first | with_reducible exact Upd.here | with_reducible apply Upd.there)); done) | (repeat (first | exact Upd.here | apply Upd.there))) ?_
        intro w M
        refine WL.assign rfl rfl ?_
        refine WL.nil ?_
        refine WX.next ?_
        refine W.sub [(2, _), (3, _)] (.cons rfl (.cons rfl .nil)) ?_
        refine W.ret ?_
        refine WX.blockRet ?_
        refine WX.thenRet ?_
        refine WX.retC2 (cs := [_, _, _, _]) rfl rfl rfl Try.isAgg36 (by exact Try.sizeOf36) (M.cellsH (by first | ((repeat (first | with_reducible exact Has.here | with_reducible refine Has.there ?_)); done) | (repeat (first | exact Has.here | refine Has.there ?_)))) ?_
        exact bad 190 _ _ M (by decide) (by rw [hE, if_pos (by omega)])
      · refine W.seq ?_
        refine W.region ?_
        refine WL.eqI rfl rfl rfl ?_
        refine WL.assign rfl rfl ?_
        refine WL.nil ?_
        refine WX.next ?_
        refine W.sub [(0, _), (2, _), (4, _), (18, _), (22, _)] (.cons rfl (.cons rfl (.cons rfl (.cons rfl (.cons rfl .nil))))) ?_
        refine W.ite rfl (fun c2 => ?_) (fun c2 => ?_)
        · have hc2 := k1 c2
          have hi2 := hin
          rw [hc2] at hi2
          have hi3 := hi2.room
          dsimp only at hi3
          refine W.region ?_
          refine WL.move rfl rfl ?_
          refine WL.cutLH (m' := (sub b 3 (3 + 2)).length) Try.underlying25 Try.sizeOf5 rfl rfl rfl (by omega) (by omega) (by omega) (show (3 : Int) = ((3 : Nat) : Int) from rfl) (show (5 : Int) = ((3 + 2 : Nat) : Int) from rfl) (by first | (rw [sub_length (by omega) (by omega)]) | (simp only [List.length_drop] <;> omega) | (simp only [List.length_take] <;> omega) | (simp only [List.length_take, List.length_drop] <;> omega) | (simp; done) | (simp; omega)) rfl ?_
          refine WL.call Try.call24 rfl (refGet19_ok (l := sub b 3 (3 + 2)) (by rw [sub_length (by omega) (by omega)]; decide) ((h.mem M).sub (by omega) (by omega))) rfl ?_
          rintro _ w ⟨rfl, m⟩
          replace M := M.call0 m; clear m
          refine WL.conv Try.underlying22 Try.underlying3 rfl (by first | exact wI64 (by omega) | rfl) rfl ?_
          refine WL.fieldR (off := 3) Try.underlying36 rfl rfl Try.sizeOf3 rfl rfl rfl ?_
          refine WL.storeR Try.sizeOf3 rfl rfl rfl M (by first | ((repeat (first | with_reducible exact Has.here | with_reducible refine Has.there ?_)); done) | (repeat (first | exact Has.here | refine Has.there ?_))) (by repeat (first | exact SetAt.zero | apply SetAt.succ)) (by first | ((repeat (first | with_reducible exact Upd.here | with_reducible apply Upd.there)); done) | (repeat (first | exact Upd.here | apply Upd.there))) ?_
          intro w M
          refine WL.nil ?_
          refine WX.blockNormal ?_
          rw [hc2]
          refine WX.join (()) (by (repeat' (first | exact envSub.nil | refine envSub.cons ?_ ?_)) <;> first | rfl | (refine congrArg some ?_; refine congrArg (Value.int _) ?_; first | omega | (dsimp only; omega)) | (simp; done) | (refine congrArg some ?_; dsimp only; congr 1; omega) | (simp; omega)) ⟨M.sel (by first | ((repeat (first | with_reducible exact Sel.refl | with_reducible exact Sel.nil | with_reducible exact Del.here | with_reducible apply Del.there | with_reducible apply Sel.cons | with_reducible apply Sel.drop)); done) | (repeat (first | exact Sel.refl | exact Sel.nil | exact Del.here | apply Del.there | apply Sel.cons | apply Sel.drop))), (by dsimp only; omega)⟩
        · refine W.seq ?_
          refine W.region ?_
          refine WL.eqI rfl rfl rfl ?_
          refine WL.assign rfl rfl ?_
          refine WL.nil ?_
          refine WX.next ?_
          refine W.sub [(0, _), (2, _), (4, _), (18, _), (29, _)] (.cons rfl (.cons rfl (.cons rfl (.cons rfl (.cons rfl .nil))))) ?_
          refine W.ite rfl (fun c3 => ?_) (fun c3 => ?_)
          · have hc3 := k2 c3
            have hi2 := hin
            rw [hc3] at hi2
            have hi3 := hi2.count
            dsimp only at hi3
            refine W.seq ?_
            refine W.region ?_
            refine WL.move rfl rfl ?_
            refine WL.cutLH (m' := (sub b 2 (2 + 4)).length) Try.underlying25 Try.sizeOf5 rfl rfl rfl (by omega) (by omega) (by omega) (show (2 : Int) = ((2 : Nat) : Int) from rfl) (show (6 : Int) = ((2 + 4 : Nat) : Int) from rfl) (by first | (rw [sub_length (by omega) (by omega)]) | (simp only [List.length_drop] <;> omega) | (simp only [List.length_take] <;> omega) | (simp only [List.length_take, List.length_drop] <;> omega) | (simp; done) | (simp; omega)) rfl ?_
            refine WL.call Try.call24 rfl (refGet19_ok (l := sub b 2 (2 + 4)) (by rw [sub_length (by omega) (by omega)]; decide) ((h.mem M).sub (by omega) (by omega))) rfl ?_
            rintro _ w ⟨rfl, m⟩
            replace M := M.call0 m; clear m
            refine WL.fieldR (off := 1) Try.underlying36 rfl rfl Try.sizeOf22 rfl rfl rfl ?_
            refine WL.storeR Try.sizeOf22 rfl rfl rfl M (by first | ((repeat (first | with_reducible exact Has.here | with_reducible refine Has.there ?_)); done) | (repeat (first | exact Has.here | refine Has.there ?_))) (by repeat (first | exact SetAt.zero | apply SetAt.succ)) (by first | ((repeat (first | with_reducible exact Upd.here | with_reducible apply Upd.there)); done) | (repeat (first | exact Upd.here | apply Upd.there))) ?_
            intro w M
            refine WL.nil ?_
            refine WX.next ?_
            refine W.sub [(0, _), (2, _), (4, _)] (.cons rfl (.cons rfl (.cons rfl .nil))) ?_
            refine W.region ?_
            refine WL.move rfl rfl ?_
            refine WL.cutLH (m' := (sub b 7 (7 + 2)).length) Try.underlying25 Try.sizeOf5 rfl rfl rfl (by omega) (by omega) (by omega) (show (7 : Int) = ((7 : Nat) : Int) from rfl) (show (9 : Int) = ((7 + 2 : Nat) : Int) from rfl) (by first | (rw [sub_length (by omega) (by omega)]) | (simp only [List.length_drop] <;> omega) | (simp only [List.length_take] <;> omega) | (simp only [List.length_take, List.length_drop] <;> omega) | (simp; done) | (simp; omega)) rfl ?_
            refine WL.call Try.call24 rfl (refGet19_ok (l := sub b 7 (7 + 2)) (by rw [sub_length (by omega) (by omega)]; decide) ((h.mem M).sub (by omega) (by omega))) rfl ?_
            rintro _ w ⟨rfl, m⟩
            replace M := M.call0 m; clear m
            refine WL.conv Try.underlying22 Try.underlying3 rfl (by first | exact wI64 (by omega) | rfl) rfl ?_
            refine WL.fieldR (off := 2) Try.underlying36 rfl rfl Try.sizeOf3 rfl rfl rfl ?_
            refine WL.storeR Try.sizeOf3 rfl rfl rfl M (by first | ((repeat (first | with_reducible exact Has.here | with_reducible refine Has.there ?_)); done) | (repeat (first | exact Has.here | refine Has.there ?_))) (by repeat (first | exact SetAt.zero | apply SetAt.succ)) (by first | ((repeat (first | with_reducible exact Upd.here | with_reducible apply Upd.there)); done) | (repeat (first | exact Upd.here | apply Upd.there))) ?_
            intro w M
            refine WL.nil ?_
            refine WX.blockNormal ?_
            rw [hc3]
            refine WX.join (()) (by (repeat' (first | exact envSub.nil | refine envSub.cons ?_ ?_)) <;> first | rfl | (refine congrArg some ?_; refine congrArg (Value.int _) ?_; first | omega | (dsimp only; omega)) | (simp; done) | (refine congrArg some ?_; dsimp only; congr 1; omega) | (simp; omega)) ⟨M.sel (by first | ((repeat (first | with_reducible exact Sel.refl | with_reducible exact Sel.nil | with_reducible exact Del.here | with_reducible apply Del.there | with_reducible apply Sel.cons | with_reducible apply Sel.drop)); done) | (repeat (first | exact Sel.refl | exact Sel.nil | exact Del.here | apply Del.there | apply Sel.cons | apply Sel.drop))), (by dsimp only; omega)⟩
          · refine W.seq ?_
            refine W.region ?_
            refine WL.eqI rfl rfl rfl ?_
            refine WL.assign rfl rfl ?_
            refine WL.nil ?_
            refine WX.next ?_
            refine W.sub [(0, _), (2, _), (4, _), (18, _), (40, _)] (.cons rfl (.cons rfl (.cons rfl (.cons rfl (.cons rfl .nil))))) ?_
            refine W.ite rfl (fun c4 => ?_) (fun c4 => ?_)
            · have hc4 := k3 c4
              have hi2 := hin
              rw [hc4] at hi2
              have hi3 := hi2.count
              dsimp only at hi3
              refine W.seq ?_
              refine W.region ?_
              refine WL.move rfl rfl ?_
              refine WL.cutLH (m' := (sub b 2 (2 + 8)).length) Try.underlying25 Try.sizeOf5 rfl rfl rfl (by omega) (by omega) (by omega) (show (2 : Int) = ((2 : Nat) : Int) from rfl) (show (10 : Int) = ((2 + 8 : Nat) : Int) from rfl) (by first | (rw [sub_length (by omega) (by omega)]) | (simp only [List.length_drop] <;> omega) | (simp only [List.length_take] <;> omega) | (simp only [List.length_take, List.length_drop] <;> omega) | (simp; done) | (simp; omega)) rfl ?_
              refine WL.call Try.call24 rfl (refGet19_ok (l := sub b 2 (2 + 8)) (by rw [sub_length (by omega) (by omega)]; decide) ((h.mem M).sub (by omega) (by omega))) rfl ?_
              rintro _ w ⟨rfl, m⟩
              replace M := M.call0 m; clear m
              refine WL.fieldR (off := 1) Try.underlying36 rfl rfl Try.sizeOf22 rfl rfl rfl ?_
              refine WL.storeR Try.sizeOf22 rfl rfl rfl M (by first | ((repeat (first | with_reducible exact Has.here | with_reducible refine Has.there ?_)); done) | (repeat (first | exact Has.here | refine Has.there ?_))) (by repeat (first | exact SetAt.zero | apply SetAt.succ)) (by first | ((repeat (first | with_reducible exact Upd.here | with_reducible apply Upd.there)); done) | (repeat (first | exact Upd.here | apply Upd.there))) ?_
              intro w M
              refine WL.nil ?_
              refine WX.next ?_
              refine W.sub [(0, _), (2, _), (4, _)] (.cons rfl (.cons rfl (.cons rfl .nil))) ?_
              refine W.region ?_
              refine WL.move rfl rfl ?_
              refine WL.cutLH (m' := (sub b 10 (10 + 4)).length) Try.underlying25 Try.sizeOf5 rfl rfl rfl (by omega) (by omega) (by omega) (show (10 : Int) = ((10 : Nat) : Int) from rfl) (show (14 : Int) = ((10 + 4 : Nat) : Int) from rfl) (by first | (rw [sub_length (by omega) (by omega)]) | (simp only [List.length_drop] <;> omega) | (simp only [List.length_take] <;> omega) | (simp only [List.length_take, List.length_drop] <;> omega) | (simp; done) | (simp; omega)) rfl ?_
              refine WL.call Try.call24 rfl (refGet19_ok (l := sub b 10 (10 + 4)) (by rw [sub_length (by omega) (by omega)]; decide) ((h.mem M).sub (by omega) (by omega))) rfl ?_
              rintro _ w ⟨rfl, m⟩
              replace M := M.call0 m; clear m
              refine WL.conv Try.underlying22 Try.underlying3 rfl (by first | exact wI64 (by omega) | rfl) rfl ?_
              refine WL.fieldR (off := 2) Try.underlying36 rfl rfl Try.sizeOf3 rfl rfl rfl ?_
              refine WL.storeR Try.sizeOf3 rfl rfl rfl M (by first | ((repeat (first | with_reducible exact Has.here | with_reducible refine Has.there ?_)); done) | (repeat (first | exact Has.here | refine Has.there ?_))) (by repeat (first | exact SetAt.zero | apply SetAt.succ)) (by first | ((repeat (first | with_reducible exact Upd.here | with_reducible apply Upd.there)); done) | (repeat (first | exact Upd.here | apply Upd.there))) ?_
              intro w M
              refine WL.nil ?_
              refine WX.blockNormal ?_
              rw [hc4]
              refine WX.join (()) (by (repeat' (first | exact envSub.nil | refine envSub.cons ?_ ?_)) <;> first | rfl | (refine congrArg some ?_; refine congrArg (Value.int _) ?_; first | omega | (dsimp only; omega)) | (simp; done) | (refine congrArg some ?_; dsimp only; congr 1; omega) | (simp; omega)) ⟨M.sel (by first | ((repeat (first | with_reducible exact Sel.refl | with_reducible exact Sel.nil | with_reducible exact Del.here | with_reducible apply Del.there | with_reducible apply Sel.cons | with_reducible apply Sel.drop)); done) | (repeat (first | exact Sel.refl | exact Sel.nil | exact Del.here | apply Del.there | apply Sel.cons | apply Sel.drop))), (by dsimp only; omega)⟩
            · refine W.seq ?_
              refine W.region ?_
              refine WL.eqI rfl rfl rfl ?_
              refine WL.assign rfl rfl ?_
              refine WL.nil ?_
              refine WX.next ?_
              refine W.sub [(0, _), (2, _), (4, _), (51, _)] (.cons rfl (.cons rfl (.cons rfl (.cons rfl .nil)))) ?_
              refine W.ite rfl (fun c5 => ?_) (fun c5 => ?_)
              · have hc5 := k4 c5
                have hi2 := hin
                rw [hc5] at hi2
                have hi3 := hi2.room
                dsimp only at hi3
                refine W.region ?_
                refine WL.move rfl rfl ?_
                refine WL.cutLH (m' := (sub b 10 (10 + 4)).length) Try.underlying25 Try.sizeOf5 rfl rfl rfl (by omega) (by omega) (by omega) (show (10 : Int) = ((10 : Nat) : Int) from rfl) (show (14 : Int) = ((10 + 4 : Nat) : Int) from rfl) (by first | (rw [sub_length (by omega) (by omega)]) | (simp only [List.length_drop] <;> omega) | (simp only [List.length_take] <;> omega) | (simp only [List.length_take, List.length_drop] <;> omega) | (simp; done) | (simp; omega)) rfl ?_
                refine WL.call Try.call24 rfl (refGet19_ok (l := sub b 10 (10 + 4)) (by rw [sub_length (by omega) (by omega)]; decide) ((h.mem M).sub (by omega) (by omega))) rfl ?_
                rintro _ w ⟨rfl, m⟩
                replace M := M.call0 m; clear m
                refine WL.conv Try.underlying22 Try.underlying3 rfl (by first | exact wI64 (by omega) | rfl) rfl ?_
                refine WL.fieldR (off := 3) Try.underlying36 rfl rfl Try.sizeOf3 rfl rfl rfl ?_
                refine WL.storeR Try.sizeOf3 rfl rfl rfl M (by first | ((repeat (first | with_reducible exact Has.here | with_reducible refine Has.there ?_)); done) | (repeat (first | exact Has.here | refine Has.there ?_))) (by repeat (first | exact SetAt.zero | apply SetAt.succ)) (by first | ((repeat (first | with_reducible exact Upd.here | with_reducible apply Upd.there)); done) | (repeat (first | exact Upd.here | apply Upd.there))) ?_
                intro w M
                refine WL.nil ?_
                refine WX.blockNormal ?_
                rw [hc5]
                refine WX.join (()) (by (repeat' (first | exact envSub.nil | refine envSub.cons ?_ ?_)) <;> first | rfl | (refine congrArg some ?_; refine congrArg (Value.int _) ?_; first | omega | (dsimp only; omega)) | (simp; done) | (refine congrArg some ?_; dsimp only; congr 1; omega) | (simp; omega)) ⟨M.sel (by first | ((repeat (first | with_reducible exact Sel.refl | with_reducible exact Sel.nil | with_reducible exact Del.here | with_reducible apply Del.there | with_reducible apply Sel.cons | with_reducible apply Sel.drop)); done) | (repeat (first | exact Sel.refl | exact Sel.nil | exact Del.here | apply Del.there | apply Sel.cons | apply Sel.drop))), (by dsimp only; omega)⟩
              · refine W.skip ?_
                refine WX.blockNormal ?_
                rw [k0 (by omega)]
                refine WX.join (()) (by (repeat' (first | exact envSub.nil | refine envSub.cons ?_ ?_)) <;> first | rfl | (refine congrArg some ?_; refine congrArg (Value.int _) ?_; first | omega | (dsimp only; omega)) | (simp; done) | (refine congrArg some ?_; dsimp only; congr 1; omega) | (simp; omega)) ⟨M.sel (by first | ((repeat (first | with_reducible exact Sel.refl | with_reducible exact Sel.nil | with_reducible exact Del.here | with_reducible apply Del.there | with_reducible apply Sel.cons | with_reducible apply Sel.drop)); done) | (repeat (first | exact Sel.refl | exact Sel.nil | exact Del.here | apply Del.there | apply Sel.cons | apply Sel.drop))), (by dsimp only; omega)⟩
    clear M; rintro (_) w ⟨M, hk⟩; dsimp only at M hk ⊢
    refine W.sub [(0, _), (2, _), (4, _)] (.cons rfl (.cons rfl (.cons rfl .nil))) ?_
    rw [if_neg (by omega)] at hE
    unfold CmX.cells at M
    dsimp only at M
    refine W.seq ?_
    refine W.region ?_
    refine WL.loadW Try.isAgg36 Try.sizeOf36 rfl M (by first | ((repeat (first | with_reducible exact Has.here | with_reducible refine Has.there ?_)); done) | (repeat (first | exact Has.here | refine Has.there ?_))) rfl rfl ?_
    refine WL.call Try.call23 rfl (refPrint_ok (cmdOf B) hin _) rfl ?_
    rintro _ w ⟨⟨C, cC, y⟩, rfl, m, hy⟩
    replace M := M.call1 m; clear m
    unfold OX.v
    unfold OX.O at M
    dsimp only at hy M ⊢
    refine WL.move rfl rfl ?_
    refine WL.extractL rfl rfl rfl ?_
    refine WL.extractL rfl rfl rfl ?_
    refine WL.assign rfl rfl ?_
    refine WL.assign rfl rfl ?_
    refine WL.nil ?_
    refine WX.next ?_
    refine W.sub [(0, _), (2, _), (4, _), (5, _), (6, _)] (.cons rfl (.cons rfl (.cons rfl (.cons rfl (.cons rfl .nil))))) ?_
    refine W.seq ?_
    refine W.seq ?_
    refine W.drawM (_) (by kernel_rfl) (fun j => [4, 7].contains j) M Sel.refl ?_
    clear M; intro M
    apply DG.pure_ [0, 1] 8 rfl (by kernel_rfl) (by kernel_rfl)
    · intro w
      refine WL.move rfl rfl ?_
      refine WL.neI rfl rfl rfl ?_
      exact Chain.end_ rfl
    refine DG.knowP (t := 64) rfl (fun c6 => ?_) (fun c6 => ?_)
    · apply DG.pure_ [2, 3, 5, 6] 4 rfl (by kernel_rfl) (by kernel_rfl)
      · intro w
        refine WL.move rfl rfl ?_
        refine WL.off rfl rfl rfl rfl ?_
        refine WL.off rfl rfl rfl rfl ?_
        refine WL.off rfl rfl rfl rfl ?_
        exact Chain.end_ rfl
      apply DG.take [4, 7, 8, 9] 0 rfl (by kernel_rfl) (by kernel_rfl) (M.sel (by first | ((repeat (first | with_reducible exact Sel.refl | with_reducible exact Sel.nil | with_reducible exact Del.here | with_reducible apply Del.there | with_reducible apply Sel.cons | with_reducible apply Sel.drop)); done) | (repeat (first | exact Sel.refl | exact Sel.nil | exact Del.here | apply Del.there | apply Sel.cons | apply Sel.drop))))
      · intro w M
        refine WL.off rfl rfl rfl rfl ?_
        refine WL.off rfl rfl rfl rfl ?_
        refine WL.off rfl rfl rfl rfl ?_
        refine WL.pickT rfl rfl rfl ?_
        exact Chain.end_ rfl
      refine DG.end_ (by kernel_rfl) ?_
      refine WX.next ?_
      refine W.sub [(2, _), (4, _), (72, _)] (.cons rfl (.cons rfl (.cons rfl .nil))) ?_
      refine W.condT rfl ?_
      refine W.seq ?_
      refine W.region ?_
      refine WL.buildP (places := #[(0, 1), (1, 1), (2, 1), (3, 1)]) Try.underlying36 Try.zeroValue36 (fun _ => by simp [Try.sizeOf3, Try.sizeOf22, Try.sizeOf3, Try.sizeOf3]) rfl (by repeat (first | exact Puts.nil | exact SetAt.zero | apply SetAt.succ | apply Puts.cons rfl rfl)) rfl ?_
      refine WL.storeWA Try.sizeOf36 rfl rfl (by repeat (first | exact oneNil | refine oneCons rfl ?_)) rfl rfl M (by first | ((repeat (first | with_reducible exact Upd.here | with_reducible apply Upd.there)); done) | (repeat (first | exact Upd.here | apply Upd.there))) ?_
      intro w M
      refine WL.assign rfl rfl ?_
      refine WL.nil ?_
      refine WX.next ?_
      refine W.sub [(2, _), (3, _)] (.cons rfl (.cons rfl .nil)) ?_
      refine W.ret ?_
      refine WX.thenRet ?_
      refine WX.retC2 (cs := [_, _, _, _]) rfl rfl rfl Try.isAgg36 (by exact Try.sizeOf36) (M.cellsH (by first | ((repeat (first | with_reducible exact Has.here | with_reducible refine Has.there ?_)); done) | (repeat (first | exact Has.here | refine Has.there ?_)))) ?_
      exact bad 191 _ _ M (by decide) (by rw [hE, if_pos]; first | exact .inl c6 | (right; rw [if_pos (Classical.not_not.1 c6)] at hy; rw [← hy]; exact c7))
    · apply DG.pure_ [2, 3, 5, 6] 4 rfl (by kernel_rfl) (by kernel_rfl)
      · intro w
        refine WL.move rfl rfl ?_
        refine WL.on rfl rfl ?_
        refine WL.move rfl rfl ?_
        refine WL.on rfl rfl ?_
        refine WL.move rfl rfl ?_
        refine WL.on rfl rfl ?_
        refine WL.cutH (m' := (B).length) Try.underlying25 Try.sizeOf5 rfl rfl (by omega) (by omega) (by omega) rfl ?_
        exact Chain.end_ rfl
      apply DG.take [4, 7, 8, 9] 0 rfl (by kernel_rfl) (by kernel_rfl) (M.sel (by first | ((repeat (first | with_reducible exact Sel.refl | with_reducible exact Sel.nil | with_reducible exact Del.here | with_reducible apply Del.there | with_reducible apply Sel.cons | with_reducible apply Sel.drop)); done) | (repeat (first | exact Sel.refl | exact Sel.nil | exact Del.here | apply Del.there | apply Sel.cons | apply Sel.drop))))
      · intro w M
        refine WL.on rfl rfl ?_
        refine WL.toStr Try.underlying25 Try.underlying5 Try.underlying9 rfl (by first | first | with_reducible assumption | with_reducible exact RdB.mem (by with_reducible assumption) M | exact M.rdB (by first | ((repeat (first | with_reducible exact Has.here | with_reducible refine Has.there ?_)); done) | (repeat (first | exact Has.here | refine Has.there ?_))) | exact RdH.at (by assumption) (M.sel (by first | ((repeat (first | with_reducible exact Sel.refl | with_reducible exact Sel.nil | with_reducible exact Del.here | with_reducible apply Del.there | with_reducible apply Sel.cons | with_reducible apply Sel.drop)); done) | (repeat (first | exact Sel.refl | exact Sel.nil | exact Del.here | apply Del.there | apply Sel.cons | apply Sel.drop)))) | exact M.rdLit' (by first | ((repeat (first | with_reducible exact Has.here | with_reducible refine Has.there ?_)); done) | (repeat (first | exact Has.here | refine Has.there ?_))) | exact M.rdLent (by first | ((repeat (first | with_reducible exact Has.here | with_reducible refine Has.there ?_)); done) | (repeat (first | exact Has.here | refine Has.there ?_))) | exact RdB.nil _ _ | exact RdB.sub (by first | with_reducible assumption | with_reducible exact RdB.mem (by with_reducible assumption) M | exact M.rdB (by first | ((repeat (first | with_reducible exact Has.here | with_reducible refine Has.there ?_)); done) | (repeat (first | exact Has.here | refine Has.there ?_))) | exact RdH.at (by assumption) (M.sel (by first | ((repeat (first | with_reducible exact Sel.refl | with_reducible exact Sel.nil | with_reducible exact Del.here | with_reducible apply Del.there | with_reducible apply Sel.cons | with_reducible apply Sel.drop)); done) | (repeat (first | exact Sel.refl | exact Sel.nil | exact Del.here | apply Del.there | apply Sel.cons | apply Sel.drop)))) | exact M.rdLit' (by first | ((repeat (first | with_reducible exact Has.here | with_reducible refine Has.there ?_)); done) | (repeat (first | exact Has.here | refine Has.there ?_))) | exact M.rdLent (by first | ((repeat (first | with_reducible exact Has.here | with_reducible refine Has.there ?_)); done) | (repeat (first | exact Has.here | refine Has.there ?_))) | exact RdB.nil _ _) (by omega) (by omega) | exact RdB.pre' (by first | with_reducible assumption | with_reducible exact RdB.mem (by with_reducible assumption) M | exact M.rdB (by first | ((repeat (first | with_reducible exact Has.here | with_reducible refine Has.there ?_)); done) | (repeat (first | exact Has.here | refine Has.there ?_))) | exact RdH.at (by assumption) (M.sel (by first | ((repeat (first | with_reducible exact Sel.refl | with_reducible exact Sel.nil | with_reducible exact Del.here | with_reducible apply Del.there | with_reducible apply Sel.cons | with_reducible apply Sel.drop)); done) | (repeat (first | exact Sel.refl | exact Sel.nil | exact Del.here | apply Del.there | apply Sel.cons | apply Sel.drop)))) | exact M.rdLit' (by first | ((repeat (first | with_reducible exact Has.here | with_reducible refine Has.there ?_)); done) | (repeat (first | exact Has.here | refine Has.there ?_))) | exact M.rdLent (by first | ((repeat (first | with_reducible exact Has.here | with_reducible refine Has.there ?_)); done) | (repeat (first | exact Has.here | refine Has.there ?_))) | exact RdB.nil _ _) (by omega) | exact RdB.suf (by first | with_reducible assumption | with_reducible exact RdB.mem (by with_reducible assumption) M | exact M.rdB (by first | ((repeat (first | with_reducible exact Has.here | with_reducible refine Has.there ?_)); done) | (repeat (first | exact Has.here | refine Has.there ?_))) | exact RdH.at (by assumption) (M.sel (by first | ((repeat (first | with_reducible exact Sel.refl | with_reducible exact Sel.nil | with_reducible exact Del.here | with_reducible apply Del.there | with_reducible apply Sel.cons | with_reducible apply Sel.drop)); done) | (repeat (first | exact Sel.refl | exact Sel.nil | exact Del.here | apply Del.there | apply Sel.cons | apply Sel.drop)))) | exact M.rdLit' (by first | ((repeat (first | with_reducible exact Has.here | with_reducible refine Has.there ?_)); done) | (repeat (first | exact Has.here | refine Has.there ?_))) | exact M.rdLent (by first | ((repeat (first | with_reducible exact Has.here | with_reducible refine Has.there ?_)); done) | (repeat (first | exact Has.here | refine Has.there ?_))) | exact RdB.nil _ _) (by omega)) rfl rfl ?_
        refine WL.on rfl rfl ?_
        refine WL.toStr Try.underlying25 Try.underlying5 Try.underlying9 rfl (hR.mem M) rfl rfl ?_
        refine WL.on rfl rfl ?_
        refine WL.neS rfl rfl rfl ?_
        refine WL.pickF rfl rfl rfl ?_
        exact Chain.end_ rfl
      refine DG.end_ (by kernel_rfl) ?_
      refine WX.next ?_
      refine W.sub [(2, _), (4, _), (72, _)] (.cons rfl (.cons rfl (.cons rfl .nil))) ?_
      refine W.ite rfl (fun c7 => ?_) (fun c7 => ?_)
      · refine W.seq ?_
        refine W.region ?_
        refine WL.buildP (places := #[(0, 1), (1, 1), (2, 1), (3, 1)]) Try.underlying36 Try.zeroValue36 (fun _ => by simp [Try.sizeOf3, Try.sizeOf22, Try.sizeOf3, Try.sizeOf3]) rfl (by repeat (first | exact Puts.nil | exact SetAt.zero | apply SetAt.succ | apply Puts.cons rfl rfl)) rfl ?_
        refine WL.storeWA Try.sizeOf36 rfl rfl (by repeat (first | exact oneNil | refine oneCons rfl ?_)) rfl rfl M (by first | ((repeat (first | with_reducible exact Upd.here | with_reducible apply Upd.there)); done) | (repeat (first | exact Upd.here | apply Upd.there))) ?_
        intro w M
        refine WL.assign rfl rfl ?_
        refine WL.nil ?_
        refine WX.next ?_
        refine W.sub [(2, _), (3, _)] (.cons rfl (.cons rfl .nil)) ?_
        refine W.ret ?_
        refine WX.thenRet ?_
        refine WX.retC2 (cs := [_, _, _, _]) rfl rfl rfl Try.isAgg36 (by exact Try.sizeOf36) (M.cellsH (by first | ((repeat (first | with_reducible exact Has.here | with_reducible refine Has.there ?_)); done) | (repeat (first | exact Has.here | refine Has.there ?_)))) ?_
        exact bad 191 _ _ M (by decide) (by rw [hE, if_pos]; first | exact .inl c6 | (right; rw [if_pos (Classical.not_not.1 c6)] at hy; rw [← hy]; exact c7))
      · refine W.skip ?_
        refine WX.next ?_
        refine W.seq ?_
        refine W.region ?_
        refine WL.loadW Try.isAgg36 Try.sizeOf36 rfl M (by first | ((repeat (first | with_reducible exact Has.here | with_reducible refine Has.there ?_)); done) | (repeat (first | exact Has.here | refine Has.there ?_))) rfl rfl ?_
        refine WL.storeWA Try.sizeOf36 rfl rfl (by repeat (first | exact oneNil | refine oneCons rfl ?_)) rfl rfl M (by first | ((repeat (first | with_reducible exact Upd.here | with_reducible apply Upd.there)); done) | (repeat (first | exact Upd.here | apply Upd.there))) ?_
        intro w M
        refine WL.assign rfl rfl ?_
        refine WL.nil ?_
        refine WX.next ?_
        refine W.sub [(2, _), (3, _)] (.cons rfl (.cons rfl .nil)) ?_
        refine W.ret ?_
        refine WX.retC2 (cs := [_, _, _, _]) rfl rfl rfl Try.isAgg36 (by exact Try.sizeOf36) (M.cellsH (by first | ((repeat (first | with_reducible exact Has.here | with_reducible refine Has.there ?_)); done) | (repeat (first | exact Has.here | refine Has.there ?_)))) ?_
        have e1 : chkC (cmdOf B) = 0 := Classical.not_not.1 c6
        rw [if_pos e1] at hy
        have e2 : prsE b = 0 := by
          rw [hE, if_neg]
          rintro (e | e)
          · exact e e1
          · exact e (by rw [← hy]; exact Classical.not_not.1 c7)
        exact ⟨by rw [e2, hC e2]; rfl, M.sel (by first | ((repeat (first | with_reducible exact Sel.refl | with_reducible exact Sel.nil | with_reducible exact Del.here | with_reducible apply Del.there | with_reducible apply Sel.cons | with_reducible apply Sel.drop)); done) | (repeat (first | exact Sel.refl | exact Sel.nil | exact Del.here | apply Del.there | apply Sel.cons | apply Sel.drop)))⟩
end Go.Proofs.Ytinbcidgdbmcjaa
