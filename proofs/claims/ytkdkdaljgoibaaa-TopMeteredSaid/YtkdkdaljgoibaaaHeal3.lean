/-
  Walks: Check, begin, Plan (heal).
-/
import Derived.Test.YtkdkdaljgoibaaaHeal2
namespace Go.Proofs.Ytkdkdaljgoibaaa
open Go Go.RowKit Bin

theorem Check1_call : ∀ (args : Array Value) (w : World), (callFunc 38 args).run Try.prog w = .ok (.enter 38 args) w := Try.call38
theorem Check1_ok (z : Int) (w : World) : Fn Try.prog 38 [.int .i64 z] w fun v w' => v = .bool (decide (z < 0 ∨ 12 ≤ z)) ∧ w' = w := by
  have M := Mem.refl w
  refine Fn.enter Try.func38 rfl Try.ntmps38 rfl ?_
  refine W.sub [(0, _)] (.cons rfl .nil) ?_
  refine W.seq ?_
  refine W.region ?_
  refine WL.assign rfl rfl ?_
  refine WL.nil ?_
  refine WX.next ?_
  refine W.sub [(0, _)] (.cons rfl .nil) ?_
  refine W.seq ?_
  refine W.region ?_
  refine WL.move rfl rfl ?_
  refine WL.lss rfl rfl rfl ?_
  refine WL.moveIf rfl rfl (fun c0 => ?_) (fun c0 => ?_)
  · refine WL.off rfl rfl rfl rfl ?_
    refine WL.off rfl rfl rfl rfl ?_
    refine WL.pickT rfl rfl rfl ?_
    refine WL.assign rfl rfl ?_
    refine WL.nil ?_
    refine WX.next ?_
    refine W.sub [(2, _)] (.cons rfl .nil) ?_
    refine W.ret ?_
    refine WX.ret1 rfl rfl ?_
    exact ⟨by first | (rw [decide_eq_true (by omega)]; done) | (congr 1; rw [decide_eq_decide]; omega), rfl⟩
  · refine WL.on rfl rfl ?_
    refine WL.move rfl rfl ?_
    refine WL.on rfl rfl ?_
    refine WL.geq rfl rfl rfl ?_
    refine WL.pickF rfl rfl rfl ?_
    refine WL.assign rfl rfl ?_
    refine WL.nil ?_
    refine WX.next ?_
    refine W.sub [(2, _)] (.cons rfl .nil) ?_
    refine W.ret ?_
    refine WX.ret1 rfl rfl ?_
    exact ⟨by first | (rw [decide_eq_true (by omega)]; done) | (congr 1; rw [decide_eq_decide]; omega), rfl⟩
/-- Sites that may be. -/
structure Sites (sites : List Int) : Prop where
  lo : 1 ≤ sites.length
  hi : sites.length ≤ 12
  all : ∀ x ∈ sites, 0 ≤ x ∧ x < 12
theorem Check_ok {As A : Option Addr} {cs cap : Nat} {sites : List Int} {ps : List PlX} (hS : Sites sites) (hF : Formed (ps.map PlX.key) (sites.length : Int)) {w0 : World} (hs : RdL w0 intE As cs sites) (h : RdP w0 A cap ps) :
    Fn Try.prog 24 [.slice As sites.length cs, .slice A ps.length cap] w0 fun v w' => v = .int .i64 0 ∧ Mem w0 w' [] := by
  have M := Mem.refl w0
  obtain ⟨w, hw⟩ : ∃ w, w = w0 := ⟨w0, rfl⟩
  have hlo := hS.lo
  have hhi := hS.hi
  have hno : ¬ (sites.findIdx (fun z => decide (z < 0 ∨ 12 ≤ z)) < sites.length) := by
    intro h1
    have h2 := List.findIdx_getElem (w := h1)
    have h3 := hS.all _ (List.getElem_mem h1)
    simp only [decide_eq_true_eq] at h2
    omega
  have hln : ∀ p ∈ ps, p.nodes.length ≤ 1000 := fun p hp => by have := hF.len p.key (List.mem_map.2 ⟨p, hp, rfl⟩); unfold PlX.key at this; dsimp only at this; omega
  refine Fn.enter Try.func24 rfl Try.ntmps24 rfl ?_
  refine W.sub [(0, _), (1, _)] (.cons rfl (.cons rfl .nil)) ?_
  refine W.seq ?_
  refine W.region ?_
  refine WL.assign rfl rfl ?_
  refine WL.nil ?_
  refine WX.next ?_
  refine W.sub [(0, _), (1, _)] (.cons rfl (.cons rfl .nil)) ?_
  refine W.seq ?_
  refine W.region ?_
  refine WL.move rfl rfl ?_
  refine WL.call Try.call37 rfl (sContF_ok (hs.mem M) _ #[] (fun z => decide (z < 0 ∨ 12 ≤ z)) Check1_call (fun x _ w' _ => (Check1_ok x w').mono (by rintro _ _ ⟨rfl, rfl⟩; exact ⟨rfl, Mem.refl _⟩)) (by omega)) rfl ?_
  rintro _ w ⟨rfl, m⟩
  replace M := M.call0 m; clear m
  refine WL.assign rfl rfl ?_
  refine WL.nil ?_
  refine WX.next ?_
  refine W.sub [(0, _), (1, _), (5, _)] (.cons rfl (.cons rfl (.cons rfl .nil))) ?_
  refine W.seq ?_
  refine W.seq ?_
  refine W.region ?_
  refine WL.move rfl rfl ?_
  refine WL.moveIf rfl rfl (fun c0 => ?_) (fun c0 => ?_)
  · exact absurd c0 hno
  · refine WL.on rfl rfl ?_
    refine WL.move rfl rfl ?_
    refine WL.on rfl rfl ?_
    refine WL.len Try.underlying22 rfl rfl ?_
    refine WL.on rfl rfl ?_
    refine WL.lss rfl rfl rfl ?_
    refine WL.pickF rfl rfl rfl ?_
    refine WL.moveIf rfl rfl (fun c1 => ?_) (fun c1 => ?_)
    · exact absurd c1 (by omega)
    · refine WL.on rfl rfl ?_
      refine WL.move rfl rfl ?_
      refine WL.on rfl rfl ?_
      refine WL.len Try.underlying22 rfl rfl ?_
      refine WL.on rfl rfl ?_
      refine WL.gtr rfl rfl rfl ?_
      refine WL.pickF rfl rfl rfl ?_
      refine WL.nil ?_
      refine WX.next ?_
      refine W.sub [(0, _), (1, _), (18, _)] (.cons rfl (.cons rfl (.cons rfl .nil))) ?_
      refine W.ite rfl (fun c2 => ?_) (fun c2 => ?_)
      · exact absurd c2 (by omega)
      · refine W.skip ?_
        refine WX.next ?_
        refine W.seq ?_
        refine W.seq ?_
        refine W.region ?_
        refine WL.move rfl rfl ?_
        refine WL.move rfl rfl ?_
        refine WL.len Try.underlying22 rfl rfl ?_
        refine WL.call Try.call17 rfl (formed_ok (h.mem M) (sites.length : Int) (by omega) hF hln) rfl ?_
        rintro _ w ⟨rfl, m⟩
        replace M := M.call0 m; clear m
        refine WL.not rfl rfl ?_
        refine WL.nil ?_
        refine WX.next ?_
        refine W.sub [(23, _)] (.cons rfl .nil) ?_
        refine W.condF rfl ?_
        refine W.skip ?_
        refine WX.next ?_
        refine W.seq ?_
        refine W.region ?_
        refine WL.assign rfl rfl ?_
        refine WL.nil ?_
        refine WX.next ?_
        refine W.sub [(4, _)] (.cons rfl .nil) ?_
        refine W.ret ?_
        refine WX.ret1 rfl rfl ?_
        exact ⟨rfl, M⟩
set_option maxHeartbeats 1000000 in
set_option maxRecDepth 10000 in
theorem begin_ok {As A : Option Addr} {cs cap up copies : Nat} (hc : 1 ≤ copies ∧ copies ≤ 12) {sites : List Int} {ps : List PlX} (hS : Sites sites) (hF : Formed (ps.map PlX.key) (sites.length : Int)) {w0 : World} (hs : RdL w0 intE As cs sites) (h : RdP w0 A cap ps) :
    Fn Try.prog 11 [.slice As sites.length cs, .int .u32 (up : Int), .int .i64 (copies : Int), .slice A ps.length cap] w0 fun v w' => ∃ g g2 load, v = .tuple #[.pointer (some ⟨g, 0, none⟩), .int .i64 0] ∧ load.length = sites.length ∧
      Mem w0 w' [Asr.row g 51 [.slice As sites.length cs, .int .u32 (up : Int), .slice (some ⟨g2, 0, none⟩) sites.length sites.length, .slice none 0 0], Asr.lst intE (some ⟨g2, 0, none⟩) sites.length load] := by
  have M := Mem.refl w0
  obtain ⟨w, hw⟩ : ∃ w, w = w0 := ⟨w0, rfl⟩
  have hlo := hS.lo
  have hhi := hS.hi
  have hF' := Formed'.of hF
  have hall := h.all
  have hfew := hF'.few
  refine Fn.enter Try.func11 rfl Try.ntmps11 rfl ?_
  refine W.sub [(0, _), (1, _), (2, _), (3, _)] (.cons rfl (.cons rfl (.cons rfl (.cons rfl .nil)))) ?_
  refine W.seq ?_
  refine W.region ?_
  refine WL.assign rfl rfl ?_
  refine WL.assign rfl rfl ?_
  refine WL.nil ?_
  refine WX.next ?_
  refine W.sub [(0, _), (1, _), (2, _), (3, _)] (.cons rfl (.cons rfl (.cons rfl (.cons rfl .nil)))) ?_
  refine W.seq ?_
  refine W.seq ?_
  refine W.region ?_
  refine WL.move rfl rfl ?_
  refine WL.move rfl rfl ?_
  refine WL.call Try.call24 rfl (Check_ok hS hF (hs.mem M) (h.mem M)) rfl ?_
  rintro _ w ⟨rfl, m⟩
  replace M := M.call0 m; clear m
  refine WL.assign rfl rfl ?_
  refine WL.nil ?_
  refine WX.next ?_
  refine W.sub [(0, _), (1, _), (2, _), (3, _), (10, _)] (.cons rfl (.cons rfl (.cons rfl (.cons rfl (.cons rfl .nil))))) ?_
  refine W.seq ?_
  refine W.region ?_
  refine WL.move rfl rfl ?_
  refine WL.neI rfl rfl rfl ?_
  refine WL.nil ?_
  refine WX.next ?_
  refine W.sub [(0, _), (1, _), (2, _), (3, _), (10, _), (20, _)] (.cons rfl (.cons rfl (.cons rfl (.cons rfl (.cons rfl (.cons rfl .nil)))))) ?_
  refine W.ite rfl (fun c0 => ?_) (fun c0 => ?_)
  · exact absurd rfl c0
  · refine W.skip ?_
    refine WX.next ?_
    refine W.seq ?_
    refine W.seq ?_
    refine W.region ?_
    refine WL.move rfl rfl ?_
    refine WL.lss rfl rfl rfl ?_
    refine WL.moveIf rfl rfl (fun c1 => ?_) (fun c1 => ?_)
    · exact absurd c1 (by omega)
    · refine WL.on rfl rfl ?_
      refine WL.move rfl rfl ?_
      refine WL.on rfl rfl ?_
      refine WL.gtr rfl rfl rfl ?_
      refine WL.pickF rfl rfl rfl ?_
      refine WL.nil ?_
      refine WX.next ?_
      refine W.sub [(0, _), (1, _), (3, _), (27, _)] (.cons rfl (.cons rfl (.cons rfl (.cons rfl .nil)))) ?_
      refine W.ite rfl (fun c2 => ?_) (fun c2 => ?_)
      · exact absurd c2 (by omega)
      · refine W.skip ?_
        refine WX.next ?_
        refine W.seq ?_
        refine W.region ?_
        refine WL.move rfl rfl ?_
        refine WL.move rfl rfl ?_
        refine WL.move rfl rfl ?_
        refine WL.len Try.underlying22 rfl rfl ?_
        refine WL.makeL (E := intE) (z0 := 0) Try.elem3 Try.zeroValue3 rfl M rfl rfl (by omega) (by omega) (by simp only [maxLen]; omega) rfl ?_
        intro g6_4 w M
        simp only [Int.toNat_natCast] at M ⊢
        refine WL.buildP (places := #[(0, 1), (1, 1), (2, 1), (3, 1)]) Try.underlying51 Try.zeroValue51 (fun _ => by simp [Try.sizeOf22, Try.sizeOf23, Try.sizeOf22, Try.sizeOf32]) rfl (by repeat (first | exact Puts.nil | exact SetAt.zero | apply SetAt.succ | apply Puts.cons rfl rfl)) rfl ?_
        refine WL.box rfl M rfl ?_
        intro g6_6 w M
        try simp only [Value.cells] at M
        try simp only [List.toList_toArray] at M
        refine WL.assign rfl rfl ?_
        refine WL.nil ?_
        refine WX.next ?_
        refine W.sub [(3, _), (11, _)] (.cons rfl (.cons rfl .nil)) ?_
        refine W.seq ?_
        refine W.seq ?_
        refine W.region ?_
        refine WL.move rfl rfl ?_
        refine WL.len Try.underlying24 rfl rfl ?_
        refine WL.move rfl rfl ?_
        refine WL.nil ?_
        refine WX.next ?_
        refine W.sub [(11, _), (35, _), (36, _), (37, _)] (.cons rfl (.cons rfl (.cons rfl (.cons rfl .nil)))) ?_
        refine W.block ?_
        refine W.loop (ι := Nat × List Int) (fun z => [(11, .pointer (some ⟨g6_6, 0, none⟩)), (35, .slice A ps.length cap), (36, .int .i64 (ps.length : Int)), (37, .int .i64 (z.1 : Int))]) (fun zz w => Mem w0 w ((fun z => [Asr.row g6_6 51 [.slice As sites.length cs, .int .u32 (up : Int), .slice (some ⟨g6_4, 0, none⟩) sites.length sites.length, .slice none 0 0], Asr.lst intE (some ⟨g6_4, 0, none⟩) sites.length z.2]) zz) ∧ (fun z => z.1 ≤ ps.length ∧ z.2.length = sites.length) zz) (fun z => ps.length - z.1) ((0, List.replicate sites.length 0)) (by (repeat' (first | exact envSub.nil | refine envSub.cons ?_ ?_)) <;> first | rfl | (refine congrArg some ?_; refine congrArg (Value.int _) ?_; first | omega | (dsimp only; omega)) | (simp; done) | (refine congrArg some ?_; dsimp only; congr 1; omega) | (simp; omega)) ⟨M.sel (by first | ((repeat (first | with_reducible exact Sel.refl | with_reducible exact Sel.nil | with_reducible exact Del.here | with_reducible apply Del.there | with_reducible apply Sel.cons | with_reducible apply Sel.drop)); done) | (repeat (first | exact Sel.refl | exact Sel.nil | exact Del.here | apply Del.there | apply Sel.cons | apply Sel.drop))), ⟨Nat.zero_le _, List.length_replicate ..⟩⟩ ?_
        clear M; rintro (⟨i, c⟩) w ⟨M, ⟨hi, hcl⟩⟩; dsimp only at M hi hcl ⊢
        refine W.sub [(11, _), (35, _), (36, _), (37, _)] (.cons rfl (.cons rfl (.cons rfl (.cons rfl .nil)))) ?_
        refine W.seq ?_
        refine W.region ?_
        refine WL.lss rfl rfl rfl ?_
        refine WL.nil ?_
        refine WX.next ?_
        refine W.sub [(11, _), (35, _), (36, _), (37, _), (38, _)] (.cons rfl (.cons rfl (.cons rfl (.cons rfl (.cons rfl .nil))))) ?_
        refine W.seq ?_
        refine W.ite rfl (fun c3 => ?_) (fun c3 => ?_)
        · have hil : i < ps.length := by omega
          have hno := hF'.nodes _ (el_mem hil)
          have hrd := h.at_ hil
          have hnl : (el ps i).nodes.length ≤ sites.length := hF.len (el ps i).key (List.mem_map.2 ⟨_, el_mem hil, rfl⟩)
          refine W.skip ?_
          refine WX.next ?_
          refine W.seq ?_
          refine W.block ?_
          refine W.seq ?_
          refine W.region ?_
          refine WL.idxA Try.underlying24 Try.sizeOf44 rfl rfl (RdL.isSome (E := placeE) (by first | with_reducible assumption | with_reducible exact RdL.mem (by with_reducible assumption) M | exact M.rdL (by first | ((repeat (first | with_reducible exact Has.here | with_reducible refine Has.there ?_)); done) | (repeat (first | exact Has.here | refine Has.there ?_))) | exact RdLH.at (by assumption) (M.sel (by first | ((repeat (first | with_reducible exact Sel.refl | with_reducible exact Sel.nil | with_reducible exact Del.here | with_reducible apply Del.there | with_reducible apply Sel.cons | with_reducible apply Sel.drop)); done) | (repeat (first | exact Sel.refl | exact Sel.nil | exact Del.here | apply Del.there | apply Sel.cons | apply Sel.drop)))) | exact RdL.nil _ _ _) (by omega)) (by omega) (by omega) (by first | exact rfl | exact (Int.toNat_of_nonneg (by omega)).symm) rfl ?_
          refine WL.loadL (E := placeE) (cs := [_, _]) Try.isAgg44 Try.sizeOf44 rfl (by first | with_reducible assumption | with_reducible exact RdL.mem (by with_reducible assumption) M | exact M.rdL (by first | ((repeat (first | with_reducible exact Has.here | with_reducible refine Has.there ?_)); done) | (repeat (first | exact Has.here | refine Has.there ?_))) | exact RdLH.at (by assumption) (M.sel (by first | ((repeat (first | with_reducible exact Sel.refl | with_reducible exact Sel.nil | with_reducible exact Del.here | with_reducible apply Del.there | with_reducible apply Sel.cons | with_reducible apply Sel.drop)); done) | (repeat (first | exact Sel.refl | exact Sel.nil | exact Del.here | apply Del.there | apply Sel.cons | apply Sel.drop)))) | exact RdL.nil _ _ _) rfl (by omega) rfl rfl ?_
          refine WL.alloc Try.zeroValue44 M rfl ?_
          intro g9_2 w M
          try simp only [Value.cells] at M
          try simp only [List.toList_toArray] at M
          refine WL.storeWA Try.sizeOf44 rfl rfl (by repeat (first | exact oneNil | refine oneCons rfl ?_)) rfl rfl M (by first | ((repeat (first | with_reducible exact Upd.here | with_reducible apply Upd.there)); done) | (repeat (first | exact Upd.here | apply Upd.there))) ?_
          intro w M
          refine WL.nil ?_
          refine WX.next ?_
          refine W.sub [(11, _), (13, _), (35, _), (36, _), (37, _)] (.cons rfl (.cons rfl (.cons rfl (.cons rfl (.cons rfl .nil))))) ?_
          refine W.seq ?_
          refine W.region ?_
          refine WL.fieldR (off := 1) Try.underlying44 rfl rfl Try.sizeOf22 rfl rfl rfl ?_
          refine WL.loadR Try.isAgg22 rfl M (by first | ((repeat (first | with_reducible exact Has.here | with_reducible refine Has.there ?_)); done) | (repeat (first | exact Has.here | refine Has.there ?_))) rfl rfl ?_
          refine WL.len Try.underlying22 rfl rfl ?_
          refine WL.move rfl rfl ?_
          refine WL.nil ?_
          refine WX.next ?_
          refine W.sub [(11, _), (35, _), (36, _), (37, _), (42, _), (43, _), (44, _)] (.cons rfl (.cons rfl (.cons rfl (.cons rfl (.cons rfl (.cons rfl (.cons rfl .nil))))))) ?_
          refine W.block ?_
          refine W.loop (ι := Nat × List Int) (fun z => [(11, .pointer (some ⟨g6_6, 0, none⟩)), (35, .slice A ps.length cap), (36, .int .i64 (ps.length : Int)), (37, .int .i64 (i : Int)), (42, .slice (el ps i).A (el ps i).nodes.length (el ps i).cap), (43, .int .i64 ((el ps i).nodes.length : Int)), (44, .int .i64 (z.1 : Int))]) (fun zz w => Mem w0 w ((fun z => [Asr.row g6_6 51 [.slice As sites.length cs, .int .u32 (up : Int), .slice (some ⟨g6_4, 0, none⟩) sites.length sites.length, .slice none 0 0], Asr.lst intE (some ⟨g6_4, 0, none⟩) sites.length z.2]) zz) ∧ (fun z => z.1 ≤ (el ps i).nodes.length ∧ z.2.length = sites.length) zz) (fun z => (el ps i).nodes.length - z.1) ((0, c)) (by (repeat' (first | exact envSub.nil | refine envSub.cons ?_ ?_)) <;> first | rfl | (refine congrArg some ?_; refine congrArg (Value.int _) ?_; first | omega | (dsimp only; omega)) | (simp; done) | (refine congrArg some ?_; dsimp only; congr 1; omega) | (simp; omega)) ⟨M.sel (by first | ((repeat (first | with_reducible exact Sel.refl | with_reducible exact Sel.nil | with_reducible exact Del.here | with_reducible apply Del.there | with_reducible apply Sel.cons | with_reducible apply Sel.drop)); done) | (repeat (first | exact Sel.refl | exact Sel.nil | exact Del.here | apply Del.there | apply Sel.cons | apply Sel.drop))), ⟨Nat.zero_le _, hcl⟩⟩ ?_
          clear M; rintro (⟨j, d⟩) w ⟨M, ⟨hj, hdl⟩⟩; dsimp only at M hj hdl ⊢
          refine W.sub [(11, _), (35, _), (36, _), (37, _), (42, _), (43, _), (44, _)] (.cons rfl (.cons rfl (.cons rfl (.cons rfl (.cons rfl (.cons rfl (.cons rfl .nil))))))) ?_
          refine W.seq ?_
          refine W.region ?_
          refine WL.lss rfl rfl rfl ?_
          refine WL.nil ?_
          refine WX.next ?_
          refine W.sub [(11, _), (35, _), (36, _), (37, _), (42, _), (43, _), (44, _), (45, _)] (.cons rfl (.cons rfl (.cons rfl (.cons rfl (.cons rfl (.cons rfl (.cons rfl (.cons rfl .nil)))))))) ?_
          refine W.seq ?_
          refine W.ite rfl (fun c4 => ?_) (fun c4 => ?_)
          · have hjl : j < (el ps i).nodes.length := by omega
            obtain ⟨h2, h3⟩ := hno.2 _ (el_mem hjl)
            obtain ⟨e, he⟩ : ∃ e : Nat, el (el ps i).nodes j = (e : Int) := ⟨(el (el ps i).nodes j).toNat, by omega⟩
            have he2 : e < d.length := by omega
            refine W.skip ?_
            refine WX.next ?_
            refine W.seq ?_
            refine W.block ?_
            refine W.seq ?_
            refine W.region ?_
            refine WL.idxA Try.underlying22 Try.sizeOf3 rfl rfl (RdL.isSome (E := intE) (by first | with_reducible assumption | with_reducible exact RdL.mem (by with_reducible assumption) M | exact M.rdL (by first | ((repeat (first | with_reducible exact Has.here | with_reducible refine Has.there ?_)); done) | (repeat (first | exact Has.here | refine Has.there ?_))) | exact RdLH.at (by assumption) (M.sel (by first | ((repeat (first | with_reducible exact Sel.refl | with_reducible exact Sel.nil | with_reducible exact Del.here | with_reducible apply Del.there | with_reducible apply Sel.cons | with_reducible apply Sel.drop)); done) | (repeat (first | exact Sel.refl | exact Sel.nil | exact Del.here | apply Del.there | apply Sel.cons | apply Sel.drop)))) | exact RdL.nil _ _ _) (by omega)) (by omega) (by omega) (by first | exact rfl | exact (Int.toNat_of_nonneg (by omega)).symm) rfl ?_
            refine WL.loadE0 (E := intE) Try.isAgg3 rfl (by first | with_reducible assumption | with_reducible exact RdL.mem (by with_reducible assumption) M | exact M.rdL (by first | ((repeat (first | with_reducible exact Has.here | with_reducible refine Has.there ?_)); done) | (repeat (first | exact Has.here | refine Has.there ?_))) | exact RdLH.at (by assumption) (M.sel (by first | ((repeat (first | with_reducible exact Sel.refl | with_reducible exact Sel.nil | with_reducible exact Del.here | with_reducible apply Del.there | with_reducible apply Sel.cons | with_reducible apply Sel.drop)); done) | (repeat (first | exact Sel.refl | exact Sel.nil | exact Del.here | apply Del.there | apply Sel.cons | apply Sel.drop)))) | exact RdL.nil _ _ _) (by omega) rfl rfl ?_
            refine WL.assign rfl rfl ?_
            refine WL.nil ?_
            refine WX.next ?_
            refine W.sub [(11, _), (15, _), (35, _), (36, _), (37, _), (42, _), (43, _), (44, _)] (.cons rfl (.cons rfl (.cons rfl (.cons rfl (.cons rfl (.cons rfl (.cons rfl (.cons rfl .nil)))))))) ?_
            refine W.region ?_
            refine WL.move rfl rfl ?_
            refine WL.nilCheck rfl rfl ?_
            refine WL.fieldR (off := 2) Try.underlying51 rfl rfl Try.sizeOf22 rfl rfl rfl ?_
            refine WL.loadR Try.isAgg22 rfl M (by first | ((repeat (first | with_reducible exact Has.here | with_reducible refine Has.there ?_)); done) | (repeat (first | exact Has.here | refine Has.there ?_))) rfl rfl ?_
            refine WL.move rfl rfl ?_
            refine WL.idxA Try.underlying22 Try.sizeOf3 rfl rfl (RdL.isSome (E := intE) (by first | with_reducible assumption | with_reducible exact RdL.mem (by with_reducible assumption) M | exact M.rdL (by first | ((repeat (first | with_reducible exact Has.here | with_reducible refine Has.there ?_)); done) | (repeat (first | exact Has.here | refine Has.there ?_))) | exact RdLH.at (by assumption) (M.sel (by first | ((repeat (first | with_reducible exact Sel.refl | with_reducible exact Sel.nil | with_reducible exact Del.here | with_reducible apply Del.there | with_reducible apply Sel.cons | with_reducible apply Sel.drop)); done) | (repeat (first | exact Sel.refl | exact Sel.nil | exact Del.here | apply Del.there | apply Sel.cons | apply Sel.drop)))) | exact RdL.nil _ _ _) (by omega)) (by omega) (by omega) he rfl ?_
            refine WL.loadE0 (E := intE) Try.isAgg3 rfl (by first | with_reducible assumption | with_reducible exact RdL.mem (by with_reducible assumption) M | exact M.rdL (by first | ((repeat (first | with_reducible exact Has.here | with_reducible refine Has.there ?_)); done) | (repeat (first | exact Has.here | refine Has.there ?_))) | exact RdLH.at (by assumption) (M.sel (by first | ((repeat (first | with_reducible exact Sel.refl | with_reducible exact Sel.nil | with_reducible exact Del.here | with_reducible apply Del.there | with_reducible apply Sel.cons | with_reducible apply Sel.drop)); done) | (repeat (first | exact Sel.refl | exact Sel.nil | exact Del.here | apply Del.there | apply Sel.cons | apply Sel.drop)))) | exact RdL.nil _ _ _) (by omega) rfl rfl ?_
            refine WL.add rfl rfl rfl rfl ?_
            refine WL.idxA Try.underlying22 Try.sizeOf3 rfl rfl (RdL.isSome (E := intE) (by first | with_reducible assumption | with_reducible exact RdL.mem (by with_reducible assumption) M | exact M.rdL (by first | ((repeat (first | with_reducible exact Has.here | with_reducible refine Has.there ?_)); done) | (repeat (first | exact Has.here | refine Has.there ?_))) | exact RdLH.at (by assumption) (M.sel (by first | ((repeat (first | with_reducible exact Sel.refl | with_reducible exact Sel.nil | with_reducible exact Del.here | with_reducible apply Del.there | with_reducible apply Sel.cons | with_reducible apply Sel.drop)); done) | (repeat (first | exact Sel.refl | exact Sel.nil | exact Del.here | apply Del.there | apply Sel.cons | apply Sel.drop)))) | exact RdL.nil _ _ _) (by omega)) (by omega) (by omega) he rfl ?_
            refine WL.storeE0 (E := intE) (x' := IntKind.i64.wrap (el d e + 1)) Try.sizeOf3 rfl rfl rfl M (by first | ((repeat (first | with_reducible exact Has.here | with_reducible refine Has.there ?_)); done) | (repeat (first | exact Has.here | refine Has.there ?_))) (by omega) (by repeat (first | exact SetAt.zero | apply SetAt.succ)) (by first | ((repeat (first | with_reducible exact Upd.here | with_reducible apply Upd.there)); done) | (repeat (first | exact Upd.here | apply Upd.there))) ?_
            intro w M
            refine WL.nil ?_
            refine WX.blockNormal ?_
            refine WX.next ?_
            refine W.sub [(11, _), (35, _), (36, _), (37, _), (42, _), (43, _), (44, _)] (.cons rfl (.cons rfl (.cons rfl (.cons rfl (.cons rfl (.cons rfl (.cons rfl .nil))))))) ?_
            refine W.region ?_
            refine WL.add rfl rfl (by first | exact wI64 (by omega) | rfl) rfl ?_
            refine WL.move rfl rfl ?_
            refine WL.nil ?_
            refine WX.round ((j + 1, d.set e (IntKind.i64.wrap (el d e + 1)))) (by (repeat' (first | exact envSub.nil | refine envSub.cons ?_ ?_)) <;> first | rfl | (refine congrArg some ?_; refine congrArg (Value.int _) ?_; first | omega | (dsimp only; omega)) | (simp; done) | (refine congrArg some ?_; dsimp only; congr 1; omega) | (simp; omega)) ⟨M.sel (by first | ((repeat (first | with_reducible exact Sel.refl | with_reducible exact Sel.nil | with_reducible exact Del.here | with_reducible apply Del.there | with_reducible apply Sel.cons | with_reducible apply Sel.drop)); done) | (repeat (first | exact Sel.refl | exact Sel.nil | exact Del.here | apply Del.there | apply Sel.cons | apply Sel.drop))), ⟨by dsimp only; omega, by rw [List.length_set]; exact hdl⟩⟩ (by first | omega | (dsimp only; omega))
          · refine W.exit ?_
            refine WX.thenExit ?_
            refine WX.thenExit ?_
            refine WX.blockHere ?_
            refine WX.blockNormal ?_
            refine WX.next ?_
            refine W.region ?_
            refine WL.add rfl rfl (by first | exact wI64 (by omega) | rfl) rfl ?_
            refine WL.move rfl rfl ?_
            refine WL.nil ?_
            refine WX.round ((i + 1, d)) (by (repeat' (first | exact envSub.nil | refine envSub.cons ?_ ?_)) <;> first | rfl | (refine congrArg some ?_; refine congrArg (Value.int _) ?_; first | omega | (dsimp only; omega)) | (simp; done) | (refine congrArg some ?_; dsimp only; congr 1; omega) | (simp; omega)) ⟨M.sel (by first | ((repeat (first | with_reducible exact Sel.refl | with_reducible exact Sel.nil | with_reducible exact Del.here | with_reducible apply Del.there | with_reducible apply Sel.cons | with_reducible apply Sel.drop)); done) | (repeat (first | exact Sel.refl | exact Sel.nil | exact Del.here | apply Del.there | apply Sel.cons | apply Sel.drop))), ⟨by dsimp only; omega, hdl⟩⟩ (by first | omega | (dsimp only; omega))
        · refine W.exit ?_
          refine WX.thenExit ?_
          refine WX.thenExit ?_
          refine WX.blockHere ?_
          refine WX.next ?_
          refine W.seq ?_
          refine W.region ?_
          refine WL.move rfl rfl ?_
          refine WL.assign rfl rfl ?_
          refine WL.assign rfl rfl ?_
          refine WL.nil ?_
          refine WX.next ?_
          refine W.sub [(8, _), (9, _)] (.cons rfl (.cons rfl .nil)) ?_
          refine W.ret ?_
          refine WX.ret2 rfl rfl rfl ?_
          exact ⟨g6_6, g6_4, c, rfl, hcl, M.sel (by first | ((repeat (first | with_reducible exact Sel.refl | with_reducible exact Sel.nil | with_reducible exact Del.here | with_reducible apply Del.there | with_reducible apply Sel.cons | with_reducible apply Sel.drop)); done) | (repeat (first | exact Sel.refl | exact Sel.nil | exact Del.here | apply Del.there | apply Sel.cons | apply Sel.drop)))⟩
theorem PlanR.snoc {up N copies : Nat} : ∀ {ps : List Pl} {ms : List Mv}, PlanR up N copies ps ms → ∀ {p : Pl} {m : List Mv}, Seg up N copies p.chunk p.nodes m → PlanR up N copies (ps ++ [p]) (ms ++ m)
  | _, _, .nil, p, m, h => by simpa using PlanR.cons h .nil
  | _, _, .cons h1 h2, p, m, h => by
    have := PlanR.snoc h2 h
    simpa using PlanR.cons h1 this
theorem hLive_mem {up : Nat} {l : List Int} {x : Int} : x ∈ hLive up l ↔ x ∈ l ∧ hUp up x = true := List.mem_filter
set_option maxHeartbeats 4000000 in
set_option maxRecDepth 10000 in
theorem Plan_ok {As A : Option Addr} {cs cap up copies : Nat} (hup : up < 4294967296) (hc : 1 ≤ copies ∧ copies ≤ 12) {sites : List Int} {ps : List PlX} (hS : Sites sites) (hF : Formed (ps.map PlX.key) (sites.length : Int)) {w0 : World} (hs : RdL w0 intE As cs sites) (h : RdP w0 A cap ps) :
    Fn Try.prog 6 [.slice As sites.length cs, .int .u32 (up : Int), .int .i64 (copies : Int), .slice A ps.length cap] w0 fun v w' => ∃ Am cm ms, v = .tuple #[.slice Am (List.length ms) cm, .int .i64 0] ∧ PlanR up sites.length copies (ps.map PlX.key) ms ∧ ms.length ≤ 12 * ps.length ∧ Mem w0 w' [Asr.lst moveE Am cm ms] := by
  have M := Mem.refl w0
  obtain ⟨w, hw⟩ : ∃ w, w = w0 := ⟨w0, rfl⟩
  have hlo := hS.lo
  have hhi := hS.hi
  have hF' := Formed'.of hF
  have hall := h.all
  have hfew := hF'.few
  refine Fn.enter Try.func6 rfl Try.ntmps6 rfl ?_
  refine W.sub [(0, _), (1, _), (2, _), (3, _)] (.cons rfl (.cons rfl (.cons rfl (.cons rfl .nil)))) ?_
  refine W.seq ?_
  refine W.region ?_
  refine WL.assign rfl rfl ?_
  refine WL.assign rfl rfl ?_
  refine WL.nil ?_
  refine WX.next ?_
  refine W.sub [(0, _), (1, _), (2, _), (3, _)] (.cons rfl (.cons rfl (.cons rfl (.cons rfl .nil)))) ?_
  refine W.seq ?_
  refine W.region ?_
  refine WL.move rfl rfl ?_
  refine WL.move rfl rfl ?_
  refine WL.move rfl rfl ?_
  refine WL.move rfl rfl ?_
  refine WL.call Try.call11 rfl (begin_ok (up := up) hc hS hF (hs.mem M) (h.mem M)) rfl ?_
  rintro _ w ⟨g, g2, ld, rfl, hld, m⟩
  replace M := M.callN m; clear m
  replace M := M.nilOwn 54 3
  refine WL.move rfl rfl ?_
  refine WL.extractL rfl rfl rfl ?_
  refine WL.extractL rfl rfl rfl ?_
  refine WL.assign rfl rfl ?_
  refine WL.assign rfl rfl ?_
  refine WL.nil ?_
  refine WX.next ?_
  refine W.sub [(2, _), (3, _), (10, _), (11, _)] (.cons rfl (.cons rfl (.cons rfl (.cons rfl .nil)))) ?_
  refine W.seq ?_
  refine W.seq ?_
  refine W.region ?_
  refine WL.move rfl rfl ?_
  refine WL.neI rfl rfl rfl ?_
  refine WL.nil ?_
  refine WX.next ?_
  refine W.sub [(2, _), (3, _), (10, _), (11, _), (26, _)] (.cons rfl (.cons rfl (.cons rfl (.cons rfl (.cons rfl .nil))))) ?_
  refine W.ite rfl (fun c0 => ?_) (fun c0 => ?_)
  · exact absurd rfl c0
  · refine W.skip ?_
    refine WX.next ?_
    refine W.seq ?_
    refine W.seq ?_
    refine W.region ?_
    refine WL.move rfl rfl ?_
    refine WL.len Try.underlying24 rfl rfl ?_
    refine WL.move rfl rfl ?_
    refine WL.nil ?_
    refine WX.next ?_
    refine W.sub [(2, _), (10, _), (28, _), (29, _), (30, _)] (.cons rfl (.cons rfl (.cons rfl (.cons rfl (.cons rfl .nil))))) ?_
    refine W.block ?_
    refine W.loop (ι := Nat × List Int × (Option Addr × Nat × List Mv)) (fun z => [(2, .int .i64 (copies : Int)), (10, .pointer (some ⟨g, 0, none⟩)), (28, .slice A ps.length cap), (29, .int .i64 (ps.length : Int)), (30, .int .i64 (z.1 : Int))]) (fun zz w => Mem w0 w ((fun z => [Asr.row g 51 [.slice As sites.length cs, .int .u32 (up : Int), .slice (some ⟨g2, 0, none⟩) sites.length sites.length, .slice z.2.2.1 z.2.2.2.2.length z.2.2.2.1], Asr.lst intE (some ⟨g2, 0, none⟩) sites.length z.2.1, Asr.lst moveE z.2.2.1 z.2.2.2.1 z.2.2.2.2]) zz) ∧ (fun z => z.1 ≤ ps.length ∧ z.2.1.length = sites.length ∧ PlanR up sites.length copies ((ps.map PlX.key).take z.1) z.2.2.2.2 ∧ z.2.2.2.2.length ≤ 12 * z.1) zz) (fun z => ps.length - z.1) ((0, ld, (none, 0, []))) (by (repeat' (first | exact envSub.nil | refine envSub.cons ?_ ?_)) <;> first | rfl | (refine congrArg some ?_; refine congrArg (Value.int _) ?_; first | omega | (dsimp only; omega)) | (simp; done) | (refine congrArg some ?_; dsimp only; congr 1; omega) | (simp; omega)) ⟨M.sel (by first | ((repeat (first | with_reducible exact Sel.refl | with_reducible exact Sel.nil | with_reducible exact Del.here | with_reducible apply Del.there | with_reducible apply Sel.cons | with_reducible apply Sel.drop)); done) | (repeat (first | exact Sel.refl | exact Sel.nil | exact Del.here | apply Del.there | apply Sel.cons | apply Sel.drop))), ⟨Nat.zero_le _, hld, by simpa using PlanR.nil, Nat.zero_le _⟩⟩ ?_
    clear M; rintro (⟨i, load, Am, cm, ms⟩) w ⟨M, ⟨hi, hcl, hpl, hml⟩⟩; dsimp only at M hi hcl hpl hml ⊢
    refine W.sub [(2, _), (10, _), (28, _), (29, _), (30, _)] (.cons rfl (.cons rfl (.cons rfl (.cons rfl (.cons rfl .nil))))) ?_
    refine W.seq ?_
    refine W.region ?_
    refine WL.lss rfl rfl rfl ?_
    refine WL.nil ?_
    refine WX.next ?_
    refine W.sub [(2, _), (10, _), (28, _), (29, _), (30, _), (31, _)] (.cons rfl (.cons rfl (.cons rfl (.cons rfl (.cons rfl (.cons rfl .nil)))))) ?_
    refine W.seq ?_
    refine W.ite rfl (fun c1 => ?_) (fun c1 => ?_)
    · have hil : i < ps.length := by omega
      have hno := hF'.nodes _ (el_mem hil)
      have hrd := h.at_ hil
      have hnl : (el ps i).nodes.length ≤ sites.length := hF.len (el ps i).key (List.mem_map.2 ⟨_, el_mem hil, rfl⟩)
      have hnd : (el ps i).nodes.Nodup := hno.1.imp (fun h => by omega)
      have hput : ∀ mm, Seg up sites.length copies (el ps i).chunk (el ps i).nodes mm → PlanR up sites.length copies ((ps.map PlX.key).take (i + 1)) (ms ++ mm) := by
        intro mm hm
        rw [List.take_succ_eq_append_getElem (by simpa using hil)]
        have e : (ps.map PlX.key)[i]'(by simpa using hil) = (el ps i).key := by rw [List.getElem_map]; simp [el, hil]
        rw [e]
        exact hpl.snoc hm
      have hr12 : ∀ x ∈ (el ps i).nodes, 0 ≤ x ∧ x < 12 := fun x hx => ⟨(hno.2 x hx).1, by have := (hno.2 x hx).2; omega⟩
      refine W.skip ?_
      refine WX.next ?_
      refine W.joint (fun (z : List Int × (Option Addr × Nat × List Mv)) => [(2, .int .i64 (copies : Int)), (10, .pointer (some ⟨g, 0, none⟩)), (28, .slice A ps.length cap), (29, .int .i64 (ps.length : Int)), (30, .int .i64 (i : Int))]) (fun zj w => Mem w0 w ((fun z => [Asr.row g 51 [.slice As sites.length cs, .int .u32 (up : Int), .slice (some ⟨g2, 0, none⟩) sites.length sites.length, .slice z.2.1 z.2.2.2.length z.2.2.1], Asr.lst intE (some ⟨g2, 0, none⟩) sites.length z.1, Asr.lst moveE z.2.1 z.2.2.1 z.2.2.2]) zj) ∧ (fun z => z.1.length = sites.length ∧ PlanR up sites.length copies ((ps.map PlX.key).take (i + 1)) z.2.2.2 ∧ z.2.2.2.length ≤ 12 * (i + 1)) zj) ?_ ?_
      · refine W.block ?_
        refine W.seq ?_
        refine W.region ?_
        refine WL.idxA Try.underlying24 Try.sizeOf44 rfl rfl (RdL.isSome (E := placeE) (by first | with_reducible assumption | with_reducible exact RdL.mem (by with_reducible assumption) M | exact M.rdL (by first | ((repeat (first | with_reducible exact Has.here | with_reducible refine Has.there ?_)); done) | (repeat (first | exact Has.here | refine Has.there ?_))) | exact RdLH.at (by assumption) (M.sel (by first | ((repeat (first | with_reducible exact Sel.refl | with_reducible exact Sel.nil | with_reducible exact Del.here | with_reducible apply Del.there | with_reducible apply Sel.cons | with_reducible apply Sel.drop)); done) | (repeat (first | exact Sel.refl | exact Sel.nil | exact Del.here | apply Del.there | apply Sel.cons | apply Sel.drop)))) | exact RdL.nil _ _ _) (by omega)) (by omega) (by omega) (by first | exact rfl | exact (Int.toNat_of_nonneg (by omega)).symm) rfl ?_
        refine WL.loadL (E := placeE) (cs := [_, _]) Try.isAgg44 Try.sizeOf44 rfl (by first | with_reducible assumption | with_reducible exact RdL.mem (by with_reducible assumption) M | exact M.rdL (by first | ((repeat (first | with_reducible exact Has.here | with_reducible refine Has.there ?_)); done) | (repeat (first | exact Has.here | refine Has.there ?_))) | exact RdLH.at (by assumption) (M.sel (by first | ((repeat (first | with_reducible exact Sel.refl | with_reducible exact Sel.nil | with_reducible exact Del.here | with_reducible apply Del.there | with_reducible apply Sel.cons | with_reducible apply Sel.drop)); done) | (repeat (first | exact Sel.refl | exact Sel.nil | exact Del.here | apply Del.there | apply Sel.cons | apply Sel.drop)))) | exact RdL.nil _ _ _) rfl (by omega) rfl rfl ?_
        refine WL.alloc Try.zeroValue44 M rfl ?_
        intro g6_2 w M
        try simp only [Value.cells] at M
        try simp only [List.toList_toArray] at M
        refine WL.storeWA Try.sizeOf44 rfl rfl (by repeat (first | exact oneNil | refine oneCons rfl ?_)) rfl rfl M (by first | ((repeat (first | with_reducible exact Upd.here | with_reducible apply Upd.there)); done) | (repeat (first | exact Upd.here | apply Upd.there))) ?_
        intro w M
        refine WL.nil ?_
        refine WX.next ?_
        refine W.sub [(2, _), (10, _), (13, _), (28, _), (29, _), (30, _)] (.cons rfl (.cons rfl (.cons rfl (.cons rfl (.cons rfl (.cons rfl .nil)))))) ?_
        refine W.seq ?_
        refine W.region ?_
        refine WL.fieldR (off := 1) Try.underlying44 rfl rfl Try.sizeOf22 rfl rfl rfl ?_
        refine WL.loadR Try.isAgg22 rfl M (by first | ((repeat (first | with_reducible exact Has.here | with_reducible refine Has.there ?_)); done) | (repeat (first | exact Has.here | refine Has.there ?_))) rfl rfl ?_
        refine WL.call Try.call12 rfl (sClone_ok (hrd.mem M) (by omega)) rfl ?_
        rintro _ w ⟨Ah0, ch0, rfl, m⟩
        replace M := M.call1 m; clear m
        refine WL.assign rfl rfl ?_
        refine WL.nil ?_
        refine WX.next ?_
        refine W.sub [(2, _), (10, _), (13, _), (14, _), (28, _), (29, _), (30, _)] (.cons rfl (.cons rfl (.cons rfl (.cons rfl (.cons rfl (.cons rfl (.cons rfl .nil))))))) ?_
        refine W.seq ?_
        refine W.region ?_
        refine WL.move rfl rfl ?_
        refine WL.move rfl rfl ?_
        refine WL.call Try.call13 rfl (live_ok (g := g) hup (nodes := (el ps i).nodes) hr12 (by omega) (rd_one M (by first | ((repeat (first | with_reducible exact Has.here | with_reducible refine Has.there ?_)); done) | (repeat (first | exact Has.here | refine Has.there ?_))) 1 rfl) (M.rdL (by first | ((repeat (first | with_reducible exact Has.here | with_reducible refine Has.there ?_)); done) | (repeat (first | exact Has.here | refine Has.there ?_))))) rfl ?_
        rintro _ w ⟨Av0, cv0, rfl, m⟩
        replace M := M.call1 m; clear m
        refine WL.assign rfl rfl ?_
        refine WL.nil ?_
        refine WX.next ?_
        refine W.sub [(2, _), (10, _), (13, _), (14, _), (15, _), (28, _), (29, _), (30, _)] (.cons rfl (.cons rfl (.cons rfl (.cons rfl (.cons rfl (.cons rfl (.cons rfl (.cons rfl .nil)))))))) ?_
        refine W.block ?_
        refine W.loop (ι := (Option Addr × Nat × List Int) × (Option Addr × Nat × List Int) × List Int × (Option Addr × Nat × List Mv)) (fun z => [(2, .int .i64 (copies : Int)), (10, .pointer (some ⟨g, 0, none⟩)), (28, .slice A ps.length cap), (29, .int .i64 (ps.length : Int)), (30, .int .i64 (i : Int)), (13, .pointer (some ⟨g6_2, 0, none⟩)), (14, .slice z.1.1 z.1.2.2.length z.1.2.1), (15, .slice z.2.1.1 z.2.1.2.2.length z.2.1.2.1)]) (fun zz w => Mem w0 w ((fun z => [Asr.row g 51 [.slice As sites.length cs, .int .u32 (up : Int), .slice (some ⟨g2, 0, none⟩) sites.length sites.length, .slice z.2.2.2.1 (ms ++ z.2.2.2.2.2).length z.2.2.2.2.1], Asr.row g6_2 44 [.int .i64 (el ps i).chunk, .slice (el ps i).A (el ps i).nodes.length (el ps i).cap], Asr.lst intE (some ⟨g2, 0, none⟩) sites.length z.2.2.1, Asr.lst moveE z.2.2.2.1 z.2.2.2.2.1 (ms ++ z.2.2.2.2.2), Asr.lst intE z.1.1 z.1.2.1 z.1.2.2, Asr.lst intE z.2.1.1 z.2.1.2.1 z.2.1.2.2]) zz) ∧ (fun z => z.2.2.1.length = sites.length ∧ (∀ x ∈ z.1.2.2, 0 ≤ x ∧ x < (sites.length : Int)) ∧ z.2.1.2.2.Perm (hLive up z.1.2.2) ∧ z.2.1.2.2.Nodup ∧ z.1.2.2.length = (el ps i).nodes.length + z.2.2.2.2.2.length ∧ z.2.2.2.2.2.length ≤ z.2.1.2.2.length ∧ (z.2.2.2.2.2.length ≤ copies) ∧ ∀ r, Seg up sites.length copies (el ps i).chunk z.1.2.2 r → Seg up sites.length copies (el ps i).chunk (el ps i).nodes (z.2.2.2.2.2 ++ r)) zz) (fun z => copies - z.2.1.2.2.length) (((Ah0, ch0, (el ps i).nodes), (Av0, cv0, hLive up (el ps i).nodes), load, (Am, cm, []))) (by (repeat' (first | exact envSub.nil | refine envSub.cons ?_ ?_)) <;> first | rfl | (refine congrArg some ?_; refine congrArg (Value.int _) ?_; first | omega | (dsimp only; omega)) | (simp; done) | (refine congrArg some ?_; dsimp only; congr 1; omega) | (simp; omega)) ⟨(by dsimp only; rw [List.append_nil]; exact M.sel (by first | ((repeat (first | with_reducible exact Sel.refl | with_reducible exact Sel.nil | with_reducible exact Del.here | with_reducible apply Del.there | with_reducible apply Sel.cons | with_reducible apply Sel.drop)); done) | (repeat (first | exact Sel.refl | exact Sel.nil | exact Del.here | apply Del.there | apply Sel.cons | apply Sel.drop)))), ⟨hcl, hno.2, List.Perm.refl _, hnd.filter _, rfl, Nat.zero_le _, Nat.zero_le _, fun r h => h⟩⟩ ?_
        clear M; rintro (⟨⟨Ah, ch, has⟩, ⟨Av, cv, live⟩, load2, Am2, cm2, mm⟩) w ⟨M, ⟨hcl2, hhr, hlp, hlnd, hhl, hmlv, hmc, hseg⟩⟩; dsimp only at M hcl2 hhr hlp hlnd hhl hmlv hmc hseg ⊢
        refine W.sub [(2, _), (10, _), (28, _), (29, _), (30, _), (13, _), (14, _), (15, _)] (.cons rfl (.cons rfl (.cons rfl (.cons rfl (.cons rfl (.cons rfl (.cons rfl (.cons rfl .nil)))))))) ?_
        refine W.seq ?_
        refine W.seq ?_
        refine W.region ?_
        refine WL.move rfl rfl ?_
        refine WL.len Try.underlying22 rfl rfl ?_
        refine WL.gtr rfl rfl rfl ?_
        refine WL.moveIf rfl rfl (fun c2 => ?_) (fun c2 => ?_)
        · refine WL.on rfl rfl ?_
          refine WL.move rfl rfl ?_
          refine WL.on rfl rfl ?_
          refine WL.len Try.underlying22 rfl rfl ?_
          refine WL.on rfl rfl ?_
          refine WL.move rfl rfl ?_
          refine WL.on rfl rfl ?_
          refine WL.lss rfl rfl rfl ?_
          refine WL.pickT rfl rfl rfl ?_
          refine WL.nil ?_
          refine WX.next ?_
          refine W.sub [(2, _), (10, _), (13, _), (14, _), (15, _), (28, _), (29, _), (30, _), (48, _)] (.cons rfl (.cons rfl (.cons rfl (.cons rfl (.cons rfl (.cons rfl (.cons rfl (.cons rfl (.cons rfl .nil))))))))) ?_
          refine W.ite rfl (fun c3 => ?_) (fun c3 => ?_)
          · have hlv : ∀ x ∈ live, 0 ≤ x ∧ x < (sites.length : Int) := fun x hx => hhr x (hLive_mem.1 (hlp.mem_iff.1 hx)).1
            have hlen : (ms ++ mm).length ≤ 4000 := by rw [List.length_append]; omega
            have hlpl := hlp.length_eq
            refine W.skip ?_
            refine WX.next ?_
            refine W.block ?_
            refine W.seq ?_
            refine W.region ?_
            refine WL.move rfl rfl ?_
            refine WL.move rfl rfl ?_
            refine WL.move rfl rfl ?_
            refine WL.call Try.call14 rfl (target_ok (g := g) hup (sites := sites) (has := has) (live := live) (load := load2) hhi hlv (by omega) (by omega) hcl2 (rd_one M (by first | ((repeat (first | with_reducible exact Has.here | with_reducible refine Has.there ?_)); done) | (repeat (first | exact Has.here | refine Has.there ?_))) 0 rfl) (rd_one M (by first | ((repeat (first | with_reducible exact Has.here | with_reducible refine Has.there ?_)); done) | (repeat (first | exact Has.here | refine Has.there ?_))) 1 rfl) (rd_one M (by first | ((repeat (first | with_reducible exact Has.here | with_reducible refine Has.there ?_)); done) | (repeat (first | exact Has.here | refine Has.there ?_))) 2 rfl) (hs.mem M) (M.rdL (by first | ((repeat (first | with_reducible exact Has.here | with_reducible refine Has.there ?_)); done) | (repeat (first | exact Has.here | refine Has.there ?_)))) (M.rdL (by first | ((repeat (first | with_reducible exact Has.here | with_reducible refine Has.there ?_)); done) | (repeat (first | exact Has.here | refine Has.there ?_)))) (M.rdL (by first | ((repeat (first | with_reducible exact Has.here | with_reducible refine Has.there ?_)); done) | (repeat (first | exact Has.here | refine Has.there ?_))))) rfl ?_
            rintro _ w ⟨⟨t, rfl, ht⟩, m⟩
            replace M := M.call0 m; clear m
            refine WL.assign rfl rfl ?_
            refine WL.nil ?_
            refine WX.next ?_
            refine W.sub [(2, _), (10, _), (13, _), (14, _), (15, _), (16, _), (28, _), (29, _), (30, _)] (.cons rfl (.cons rfl (.cons rfl (.cons rfl (.cons rfl (.cons rfl (.cons rfl (.cons rfl (.cons rfl .nil))))))))) ?_
            refine W.seq ?_
            refine W.seq ?_
            refine W.region ?_
            refine WL.move rfl rfl ?_
            refine WL.lss rfl rfl rfl ?_
            refine WL.nil ?_
            refine WX.next ?_
            refine W.sub [(2, _), (10, _), (13, _), (14, _), (15, _), (16, _), (28, _), (29, _), (30, _), (54, _)] (.cons rfl (.cons rfl (.cons rfl (.cons rfl (.cons rfl (.cons rfl (.cons rfl (.cons rfl (.cons rfl (.cons rfl .nil)))))))))) ?_
            refine W.ite rfl (fun c4 => ?_) (fun c4 => ?_)
            · refine W.exit ?_
              refine WX.thenExit ?_
              refine WX.blockPast rfl ?_
              refine WX.thenExit ?_
              refine WX.blockHere ?_
              refine WX.blockNormal ?_
              have hfull : ∀ n : Int, 0 ≤ n → n < (sites.length : Nat) → hUp up n = true → n ∈ has := by
                rcases ht with ⟨_, hfull⟩ | ⟨h0, _⟩
                · exact hfull
                · omega
              have q := hput mm (by simpa using hseg [] (.stop (.inr (.inr hfull))))
              have q2 : (ms ++ mm).length ≤ 12 * (i + 1) := by rw [List.length_append]; omega
              refine WX.join ((load2, (Am2, cm2, ms ++ mm))) (by (repeat' (first | exact envSub.nil | refine envSub.cons ?_ ?_)) <;> first | rfl | (refine congrArg some ?_; refine congrArg (Value.int _) ?_; first | omega | (dsimp only; omega)) | (simp; done) | (refine congrArg some ?_; dsimp only; congr 1; omega) | (simp; omega)) ⟨M.sel (by first | ((repeat (first | with_reducible exact Sel.refl | with_reducible exact Sel.nil | with_reducible exact Del.here | with_reducible apply Del.there | with_reducible apply Sel.cons | with_reducible apply Sel.drop)); done) | (repeat (first | exact Sel.refl | exact Sel.nil | exact Del.here | apply Del.there | apply Sel.cons | apply Sel.drop))), ⟨hcl2, q, q2⟩⟩
            · obtain ⟨h0, h1, h2, h3⟩ : 0 ≤ t ∧ t < (sites.length : Nat) ∧ hUp up t = true ∧ t ∉ has := by
                rcases ht with ⟨h, _⟩ | h
                · omega
                · exact h
              obtain ⟨tn, rfl⟩ : ∃ k : Nat, t = (k : Int) := ⟨t.toNat, by omega⟩
              have htn : tn < load2.length := by omega
              have hnl2 : (tn : Int) ∉ live := fun hx => h3 (hLive_mem.1 (hlp.mem_iff.1 hx)).1
              refine W.skip ?_
              refine WX.next ?_
              refine W.seq ?_
              refine W.drawM ([Asr.row g 51 [.slice As sites.length cs, .int .u32 (up : Int), .slice (some ⟨g2, 0, none⟩) sites.length sites.length, .slice Am2 (ms ++ mm).length cm2], Asr.row g6_2 44 [.int .i64 (el ps i).chunk, .slice (el ps i).A (el ps i).nodes.length (el ps i).cap]]) (by kernel_rfl) (fun j => [4, 6, 10, 12, 13].contains j) M (by first | ((repeat (first | with_reducible exact Sel.refl | with_reducible exact Sel.nil | with_reducible exact Del.here | with_reducible apply Del.there | with_reducible apply Sel.cons | with_reducible apply Sel.drop)); done) | (repeat (first | exact Sel.refl | exact Sel.nil | exact Del.here | apply Del.there | apply Sel.cons | apply Sel.drop))) ?_
              clear M; intro M
              apply DG.pure_ [0, 1, 2, 3, 5, 7, 8, 9, 11] 9 rfl (by kernel_rfl) (by kernel_rfl)
              · intro w
                refine WL.move rfl rfl ?_
                refine WL.move rfl rfl ?_
                refine WL.nilCheck rfl rfl ?_
                refine WL.fieldR (off := 3) Try.underlying51 rfl rfl Try.sizeOf32 rfl rfl rfl ?_
                refine WL.fieldR (off := 0) Try.underlying44 rfl rfl Try.sizeOf3 rfl rfl rfl ?_
                refine WL.move rfl rfl ?_
                refine WL.move rfl rfl ?_
                refine WL.move rfl rfl ?_
                refine WL.move rfl rfl ?_
                exact Chain.end_ rfl
              apply DG.take [4, 6] 7 rfl (by kernel_rfl) (by kernel_rfl) (M.sel (by first | ((repeat (first | with_reducible exact Sel.refl | with_reducible exact Sel.nil | with_reducible exact Del.here | with_reducible apply Del.there | with_reducible apply Sel.cons | with_reducible apply Sel.drop)); done) | (repeat (first | exact Sel.refl | exact Sel.nil | exact Del.here | apply Del.there | apply Sel.cons | apply Sel.drop))))
              · intro w M
                refine WL.loadR Try.isAgg32 rfl M (by first | ((repeat (first | with_reducible exact Has.here | with_reducible refine Has.there ?_)); done) | (repeat (first | exact Has.here | refine Has.there ?_))) rfl rfl ?_
                refine WL.loadR Try.isAgg3 rfl M (by first | ((repeat (first | with_reducible exact Has.here | with_reducible refine Has.there ?_)); done) | (repeat (first | exact Has.here | refine Has.there ?_))) rfl rfl ?_
                exact Chain.end_ rfl
              refine DG.step 10 6 rfl (by kernel_rfl) ?_
              refine WL.call Try.call15 rfl (source_ok (g := g) (sites := sites) (live := live) hhi hlv (by omega) (by omega) (b := (tn : Int)) h0 h1 (rd_one M (by first | ((repeat (first | with_reducible exact Has.here | with_reducible refine Has.there ?_)); done) | (repeat (first | exact Has.here | refine Has.there ?_))) 0 rfl) (hs.mem M) (M.rdL (by first | ((repeat (first | with_reducible exact Has.here | with_reducible refine Has.there ?_)); done) | (repeat (first | exact Has.here | refine Has.there ?_))))) rfl ?_
              rintro _ w ⟨⟨f, hf, rfl⟩, m⟩
              replace M := M.call0 m; clear m
              refine DG.go (G := fun j => [4, 6, 10, 12, 13].contains j) (i := 10) (f' := 6) (done := [0, 1, 2, 3, 5, 7, 8, 9, 11, 4, 6]) (fun _ => M.sel (by first | ((repeat (first | with_reducible exact Sel.refl | with_reducible exact Sel.nil | with_reducible exact Del.here | with_reducible apply Del.there | with_reducible apply Sel.cons | with_reducible apply Sel.drop)); done) | (repeat (first | exact Sel.refl | exact Sel.nil | exact Del.here | apply Del.there | apply Sel.cons | apply Sel.drop)))) ?_
              apply DG.take [12] 5 rfl (by kernel_rfl) (by kernel_rfl) (M.sel (by first | ((repeat (first | with_reducible exact Sel.refl | with_reducible exact Sel.nil | with_reducible exact Del.here | with_reducible apply Del.there | with_reducible apply Sel.cons | with_reducible apply Sel.drop)); done) | (repeat (first | exact Sel.refl | exact Sel.nil | exact Del.here | apply Del.there | apply Sel.cons | apply Sel.drop))))
              · intro w M
                refine WL.buildP (places := #[(0, 1), (1, 1), (2, 1)]) Try.underlying54 Try.zeroValue54 (fun _ => by simp [Try.sizeOf3, Try.sizeOf3, Try.sizeOf3]) rfl (by repeat (first | exact Puts.nil | exact SetAt.zero | apply SetAt.succ | apply Puts.cons rfl rfl)) rfl ?_
                exact Chain.end_ rfl
              refine DG.step 13 4 rfl (by kernel_rfl) ?_
              refine WL.buildL (E := moveE) (l := [⟨(el ps i).chunk, f, (tn : Int)⟩]) Try.elem54 M rfl rfl rfl rfl rfl rfl ?_
              intro g12_13 w M
              refine DG.go (G := fun j => [4, 6, 10, 12, 13].contains j) (i := 13) (f' := 4) (done := [0, 1, 2, 3, 5, 7, 8, 9, 11, 4, 6, 10, 12]) (fun _ => M.sel (by first | ((repeat (first | with_reducible exact Sel.refl | with_reducible exact Sel.nil | with_reducible exact Del.here | with_reducible apply Del.there | with_reducible apply Sel.cons | with_reducible apply Sel.drop)); done) | (repeat (first | exact Sel.refl | exact Sel.nil | exact Del.here | apply Del.there | apply Sel.cons | apply Sel.drop)))) ?_
              refine DG.step 14 3 rfl (by kernel_rfl) ?_
              refine WL.appendL (E := moveE) Try.elem54 rfl rfl M (by first | ((repeat (first | with_reducible exact Del.here | with_reducible apply Del.there)); done) | (repeat (first | exact Del.here | apply Del.there))) (by first | with_reducible assumption | with_reducible exact RdL.mem (by with_reducible assumption) M | exact M.rdL (by first | ((repeat (first | with_reducible exact Has.here | with_reducible refine Has.there ?_)); done) | (repeat (first | exact Has.here | refine Has.there ?_))) | exact RdLH.at (by assumption) (M.sel (by first | ((repeat (first | with_reducible exact Sel.refl | with_reducible exact Sel.nil | with_reducible exact Del.here | with_reducible apply Del.there | with_reducible apply Sel.cons | with_reducible apply Sel.drop)); done) | (repeat (first | exact Sel.refl | exact Sel.nil | exact Del.here | apply Del.there | apply Sel.cons | apply Sel.drop)))) | exact RdL.nil _ _ _) rfl rfl (by first | omega | (simp; done) | (simp; omega)) (by first | (simp only [maxLen]; omega) | (simp [maxLen]; done) | (simp [maxLen]; omega)) rfl ?_
              intro A12_14 cap12_14 w M
              refine DG.go (G := fun j => [4, 6, 10, 12, 13].contains j) (i := 14) (f' := 3) (done := [0, 1, 2, 3, 5, 7, 8, 9, 11, 4, 6, 10, 12, 13]) (fun h => by cases h) ?_
              apply DG.pure_ [15, 16] 1 rfl (by kernel_rfl) (by kernel_rfl)
              · intro w
                refine WL.nilCheck rfl rfl ?_
                refine WL.fieldR (off := 3) Try.underlying51 rfl rfl Try.sizeOf32 rfl rfl rfl ?_
                exact Chain.end_ rfl
              refine DG.step 17 0 rfl (by kernel_rfl) ?_
              refine WL.storeR Try.sizeOf32 rfl rfl rfl M (by first | ((repeat (first | with_reducible exact Has.here | with_reducible refine Has.there ?_)); done) | (repeat (first | exact Has.here | refine Has.there ?_))) (by repeat (first | exact SetAt.zero | apply SetAt.succ)) (by first | ((repeat (first | with_reducible exact Upd.here | with_reducible apply Upd.there)); done) | (repeat (first | exact Upd.here | apply Upd.there))) ?_
              intro w M
              refine DG.go (G := fun j => [4, 6, 10, 12, 13].contains j) (i := 17) (f' := 0) (done := [0, 1, 2, 3, 5, 7, 8, 9, 11, 4, 6, 10, 12, 13, 14, 15, 16]) (fun h => by cases h) ?_
              refine DG.end_ (by kernel_rfl) ?_
              refine WX.next ?_
              refine W.sub [(2, _), (10, _), (13, _), (14, _), (15, _), (16, _), (28, _), (29, _), (30, _)] (.cons rfl (.cons rfl (.cons rfl (.cons rfl (.cons rfl (.cons rfl (.cons rfl (.cons rfl (.cons rfl .nil))))))))) ?_
              refine W.seq ?_
              refine W.region ?_
              refine WL.move rfl rfl ?_
              refine WL.nilCheck rfl rfl ?_
              refine WL.fieldR (off := 2) Try.underlying51 rfl rfl Try.sizeOf22 rfl rfl rfl ?_
              refine WL.loadR Try.isAgg22 rfl M (by first | ((repeat (first | with_reducible exact Has.here | with_reducible refine Has.there ?_)); done) | (repeat (first | exact Has.here | refine Has.there ?_))) rfl rfl ?_
              refine WL.move rfl rfl ?_
              refine WL.idxA Try.underlying22 Try.sizeOf3 rfl rfl (RdL.isSome (E := intE) (by first | with_reducible assumption | with_reducible exact RdL.mem (by with_reducible assumption) M | exact M.rdL (by first | ((repeat (first | with_reducible exact Has.here | with_reducible refine Has.there ?_)); done) | (repeat (first | exact Has.here | refine Has.there ?_))) | exact RdLH.at (by assumption) (M.sel (by first | ((repeat (first | with_reducible exact Sel.refl | with_reducible exact Sel.nil | with_reducible exact Del.here | with_reducible apply Del.there | with_reducible apply Sel.cons | with_reducible apply Sel.drop)); done) | (repeat (first | exact Sel.refl | exact Sel.nil | exact Del.here | apply Del.there | apply Sel.cons | apply Sel.drop)))) | exact RdL.nil _ _ _) (by omega)) (by omega) (by omega) (by first | exact rfl | exact (Int.toNat_of_nonneg (by omega)).symm) rfl ?_
              refine WL.loadE0 (E := intE) Try.isAgg3 rfl (by first | with_reducible assumption | with_reducible exact RdL.mem (by with_reducible assumption) M | exact M.rdL (by first | ((repeat (first | with_reducible exact Has.here | with_reducible refine Has.there ?_)); done) | (repeat (first | exact Has.here | refine Has.there ?_))) | exact RdLH.at (by assumption) (M.sel (by first | ((repeat (first | with_reducible exact Sel.refl | with_reducible exact Sel.nil | with_reducible exact Del.here | with_reducible apply Del.there | with_reducible apply Sel.cons | with_reducible apply Sel.drop)); done) | (repeat (first | exact Sel.refl | exact Sel.nil | exact Del.here | apply Del.there | apply Sel.cons | apply Sel.drop)))) | exact RdL.nil _ _ _) (by omega) rfl rfl ?_
              refine WL.add rfl rfl rfl rfl ?_
              refine WL.idxA Try.underlying22 Try.sizeOf3 rfl rfl (RdL.isSome (E := intE) (by first | with_reducible assumption | with_reducible exact RdL.mem (by with_reducible assumption) M | exact M.rdL (by first | ((repeat (first | with_reducible exact Has.here | with_reducible refine Has.there ?_)); done) | (repeat (first | exact Has.here | refine Has.there ?_))) | exact RdLH.at (by assumption) (M.sel (by first | ((repeat (first | with_reducible exact Sel.refl | with_reducible exact Sel.nil | with_reducible exact Del.here | with_reducible apply Del.there | with_reducible apply Sel.cons | with_reducible apply Sel.drop)); done) | (repeat (first | exact Sel.refl | exact Sel.nil | exact Del.here | apply Del.there | apply Sel.cons | apply Sel.drop)))) | exact RdL.nil _ _ _) (by omega)) (by omega) (by omega) (by first | exact rfl | exact (Int.toNat_of_nonneg (by omega)).symm) rfl ?_
              refine WL.storeE0 (E := intE) (x' := IntKind.i64.wrap (el load2 tn + 1)) Try.sizeOf3 rfl rfl rfl M (by first | ((repeat (first | with_reducible exact Has.here | with_reducible refine Has.there ?_)); done) | (repeat (first | exact Has.here | refine Has.there ?_))) (by omega) (by repeat (first | exact SetAt.zero | apply SetAt.succ)) (by first | ((repeat (first | with_reducible exact Upd.here | with_reducible apply Upd.there)); done) | (repeat (first | exact Upd.here | apply Upd.there))) ?_
              intro w M
              refine WL.nil ?_
              refine WX.next ?_
              refine W.sub [(2, _), (10, _), (13, _), (14, _), (15, _), (16, _), (28, _), (29, _), (30, _)] (.cons rfl (.cons rfl (.cons rfl (.cons rfl (.cons rfl (.cons rfl (.cons rfl (.cons rfl (.cons rfl .nil))))))))) ?_
              refine W.seq ?_
              refine W.region ?_
              refine WL.move rfl rfl ?_
              refine WL.move rfl rfl ?_
              refine WL.buildL (E := intE) (l := [(tn : Int)]) Try.elem3 M rfl rfl rfl rfl rfl rfl ?_
              intro g14_2 w M
              refine WL.appendL (E := intE) Try.elem3 rfl rfl M (by first | ((repeat (first | with_reducible exact Del.here | with_reducible apply Del.there)); done) | (repeat (first | exact Del.here | apply Del.there))) (by first | with_reducible assumption | with_reducible exact RdL.mem (by with_reducible assumption) M | exact M.rdL (by first | ((repeat (first | with_reducible exact Has.here | with_reducible refine Has.there ?_)); done) | (repeat (first | exact Has.here | refine Has.there ?_))) | exact RdLH.at (by assumption) (M.sel (by first | ((repeat (first | with_reducible exact Sel.refl | with_reducible exact Sel.nil | with_reducible exact Del.here | with_reducible apply Del.there | with_reducible apply Sel.cons | with_reducible apply Sel.drop)); done) | (repeat (first | exact Sel.refl | exact Sel.nil | exact Del.here | apply Del.there | apply Sel.cons | apply Sel.drop)))) | exact RdL.nil _ _ _) rfl rfl (by first | omega | (simp; done) | (simp; omega)) (by first | (simp only [maxLen]; omega) | (simp [maxLen]; done) | (simp [maxLen]; omega)) rfl ?_
              intro A14_3 cap14_3 w M
              refine WL.assign rfl rfl ?_
              refine WL.nil ?_
              refine WX.next ?_
              refine W.sub [(2, _), (10, _), (13, _), (14, _), (15, _), (16, _), (28, _), (29, _), (30, _)] (.cons rfl (.cons rfl (.cons rfl (.cons rfl (.cons rfl (.cons rfl (.cons rfl (.cons rfl (.cons rfl .nil))))))))) ?_
              refine W.seq ?_
              refine W.region ?_
              refine WL.move rfl rfl ?_
              refine WL.move rfl rfl ?_
              refine WL.buildL (E := intE) (l := [(tn : Int)]) Try.elem3 M rfl rfl rfl rfl rfl rfl ?_
              intro g15_2 w M
              refine WL.appendL (E := intE) Try.elem3 rfl rfl M (by first | ((repeat (first | with_reducible exact Del.here | with_reducible apply Del.there)); done) | (repeat (first | exact Del.here | apply Del.there))) (by first | with_reducible assumption | with_reducible exact RdL.mem (by with_reducible assumption) M | exact M.rdL (by first | ((repeat (first | with_reducible exact Has.here | with_reducible refine Has.there ?_)); done) | (repeat (first | exact Has.here | refine Has.there ?_))) | exact RdLH.at (by assumption) (M.sel (by first | ((repeat (first | with_reducible exact Sel.refl | with_reducible exact Sel.nil | with_reducible exact Del.here | with_reducible apply Del.there | with_reducible apply Sel.cons | with_reducible apply Sel.drop)); done) | (repeat (first | exact Sel.refl | exact Sel.nil | exact Del.here | apply Del.there | apply Sel.cons | apply Sel.drop)))) | exact RdL.nil _ _ _) rfl rfl (by first | omega | (simp; done) | (simp; omega)) (by first | (simp only [maxLen]; omega) | (simp [maxLen]; done) | (simp [maxLen]; omega)) rfl ?_
              intro A15_3 cap15_3 w M
              refine WL.assign rfl rfl ?_
              refine WL.nil ?_
              refine WX.next ?_
              refine W.sub [(2, _), (10, _), (13, _), (14, _), (15, _), (28, _), (29, _), (30, _)] (.cons rfl (.cons rfl (.cons rfl (.cons rfl (.cons rfl (.cons rfl (.cons rfl (.cons rfl .nil)))))))) ?_
              refine W.region ?_
              refine WL.move rfl rfl ?_
              refine WL.call Try.call16 rfl (sortO_ok (l := live ++ [(tn : Int)]) (by simp; omega) (by rw [List.nodup_append]; exact ⟨hlnd, by simp, fun x hx y hy e => hnl2 (by have e2 : y = (tn : Int) := (by simpa using hy); rw [← e2, ← e]; exact hx)⟩) w0 w _ _ M (by first | ((repeat (first | with_reducible exact Del.here | with_reducible apply Del.there)); done) | (repeat (first | exact Del.here | apply Del.there)))) rfl ?_
              rintro _ w ⟨m, hm1, hm2, hm3, M⟩
              rw [← hm1]
              rw [List.append_assoc] at M
              have hm4 : m.length = live.length + 1 := by rw [hm1]; simp
              refine WL.nil ?_
              refine WX.blockNormal ?_
              skip
              have q1 : ∀ x ∈ has ++ [(tn : Int)], 0 ≤ x ∧ x < (sites.length : Int) := by
                intro x hx
                rcases List.mem_append.1 hx with hx | hx
                · exact hhr x hx
                · obtain rfl : x = (tn : Int) := by simpa using hx
                  exact ⟨h0, h1⟩
              have q2 : m.Perm (hLive up (has ++ [(tn : Int)])) := by
                have e : hLive up (has ++ [(tn : Int)]) = hLive up has ++ [(tn : Int)] := by
                  unfold hLive
                  rw [List.filter_append]
                  simp [h2]
                rw [e]
                exact hm2.trans (hlp.append_right _)
              have q3 : m.Nodup := hm3.imp (fun h => by omega)
              have q4 : ∀ r, Seg up sites.length copies (el ps i).chunk (has ++ [(tn : Int)]) r → Seg up sites.length copies (el ps i).chunk (el ps i).nodes ((mm ++ [⟨(el ps i).chunk, f, (tn : Int)⟩]) ++ r) := by
                intro r hr
                rw [List.append_assoc]
                exact hseg _ (Seg.step (by omega) (by omega) ⟨h0, h1, h2, h3⟩ (hlp.mem_iff.1 hf) hr)
              refine WX.round (((A14_3, cap14_3, has ++ [(tn : Int)]), (A15_3, cap15_3, m), load2.set tn (IntKind.i64.wrap (el load2 tn + 1)), (A12_14, cap12_14, mm ++ [⟨(el ps i).chunk, f, (tn : Int)⟩]))) (by (repeat' (first | exact envSub.nil | refine envSub.cons ?_ ?_)) <;> first | rfl | (refine congrArg some ?_; refine congrArg (Value.int _) ?_; first | omega | (dsimp only; omega)) | (simp; done) | (refine congrArg some ?_; dsimp only; congr 1; omega) | (simp; omega)) ⟨M.sel (by first | ((repeat (first | with_reducible exact Sel.refl | with_reducible exact Sel.nil | with_reducible exact Del.here | with_reducible apply Del.there | with_reducible apply Sel.cons | with_reducible apply Sel.drop)); done) | (repeat (first | exact Sel.refl | exact Sel.nil | exact Del.here | apply Del.there | apply Sel.cons | apply Sel.drop))), ⟨by rw [List.length_set]; exact hcl2, q1, q2, q3, by dsimp only; rw [List.length_append, List.length_append, hhl]; simp; omega, by dsimp only; rw [List.length_append]; simp; omega, by dsimp only; rw [List.length_append]; simp; omega, q4⟩⟩ (by first | omega | (dsimp only; omega))
          · refine W.exit ?_
            refine WX.thenExit ?_
            refine WX.thenExit ?_
            refine WX.blockHere ?_
            refine WX.blockNormal ?_
            have hfull : Full up sites.length copies has := .inr (.inl (by have := hlp.length_eq; omega))
            have q := hput mm (by simpa using hseg [] (.stop hfull))
            have q2 : (ms ++ mm).length ≤ 12 * (i + 1) := by rw [List.length_append]; omega
            refine WX.join ((load2, (Am2, cm2, ms ++ mm))) (by (repeat' (first | exact envSub.nil | refine envSub.cons ?_ ?_)) <;> first | rfl | (refine congrArg some ?_; refine congrArg (Value.int _) ?_; first | omega | (dsimp only; omega)) | (simp; done) | (refine congrArg some ?_; dsimp only; congr 1; omega) | (simp; omega)) ⟨M.sel (by first | ((repeat (first | with_reducible exact Sel.refl | with_reducible exact Sel.nil | with_reducible exact Del.here | with_reducible apply Del.there | with_reducible apply Sel.cons | with_reducible apply Sel.drop)); done) | (repeat (first | exact Sel.refl | exact Sel.nil | exact Del.here | apply Del.there | apply Sel.cons | apply Sel.drop))), ⟨hcl2, q, q2⟩⟩
        · refine WL.off rfl rfl rfl rfl ?_
          refine WL.off rfl rfl rfl rfl ?_
          refine WL.off rfl rfl rfl rfl ?_
          refine WL.off rfl rfl rfl rfl ?_
          refine WL.pickF rfl rfl rfl ?_
          refine WL.nil ?_
          refine WX.next ?_
          refine W.sub [(2, _), (10, _), (13, _), (14, _), (15, _), (28, _), (29, _), (30, _), (48, _)] (.cons rfl (.cons rfl (.cons rfl (.cons rfl (.cons rfl (.cons rfl (.cons rfl (.cons rfl (.cons rfl .nil))))))))) ?_
          refine W.condF rfl ?_
          refine W.exit ?_
          refine WX.thenExit ?_
          refine WX.thenExit ?_
          refine WX.blockHere ?_
          refine WX.blockNormal ?_
          have hfull : Full up sites.length copies has := .inl (by have := hlp.length_eq; omega)
          have q := hput mm (by simpa using hseg [] (.stop hfull))
          have q2 : (ms ++ mm).length ≤ 12 * (i + 1) := by rw [List.length_append]; omega
          refine WX.join ((load2, (Am2, cm2, ms ++ mm))) (by (repeat' (first | exact envSub.nil | refine envSub.cons ?_ ?_)) <;> first | rfl | (refine congrArg some ?_; refine congrArg (Value.int _) ?_; first | omega | (dsimp only; omega)) | (simp; done) | (refine congrArg some ?_; dsimp only; congr 1; omega) | (simp; omega)) ⟨M.sel (by first | ((repeat (first | with_reducible exact Sel.refl | with_reducible exact Sel.nil | with_reducible exact Del.here | with_reducible apply Del.there | with_reducible apply Sel.cons | with_reducible apply Sel.drop)); done) | (repeat (first | exact Sel.refl | exact Sel.nil | exact Del.here | apply Del.there | apply Sel.cons | apply Sel.drop))), ⟨hcl2, q, q2⟩⟩
      clear M; rintro (⟨load', Am', cm', ms'⟩) w ⟨M, ⟨hcl', hpl', hml'⟩⟩; dsimp only at M hcl' hpl' hml' ⊢
      refine W.sub [(2, _), (10, _), (28, _), (29, _), (30, _)] (.cons rfl (.cons rfl (.cons rfl (.cons rfl (.cons rfl .nil))))) ?_
      refine W.region ?_
      refine WL.add rfl rfl (by first | exact wI64 (by omega) | rfl) rfl ?_
      refine WL.move rfl rfl ?_
      refine WL.nil ?_
      refine WX.round ((i + 1, load', (Am', cm', ms'))) (by (repeat' (first | exact envSub.nil | refine envSub.cons ?_ ?_)) <;> first | rfl | (refine congrArg some ?_; refine congrArg (Value.int _) ?_; first | omega | (dsimp only; omega)) | (simp; done) | (refine congrArg some ?_; dsimp only; congr 1; omega) | (simp; omega)) ⟨M.sel (by first | ((repeat (first | with_reducible exact Sel.refl | with_reducible exact Sel.nil | with_reducible exact Del.here | with_reducible apply Del.there | with_reducible apply Sel.cons | with_reducible apply Sel.drop)); done) | (repeat (first | exact Sel.refl | exact Sel.nil | exact Del.here | apply Del.there | apply Sel.cons | apply Sel.drop))), ⟨by dsimp only; omega, hcl', hpl', hml'⟩⟩ (by first | omega | (dsimp only; omega))
    · refine W.exit ?_
      refine WX.thenExit ?_
      refine WX.thenExit ?_
      refine WX.blockHere ?_
      refine WX.next ?_
      refine W.seq ?_
      refine W.region ?_
      refine WL.move rfl rfl ?_
      refine WL.nilCheck rfl rfl ?_
      refine WL.fieldR (off := 3) Try.underlying51 rfl rfl Try.sizeOf32 rfl rfl rfl ?_
      refine WL.loadR Try.isAgg32 rfl M (by first | ((repeat (first | with_reducible exact Has.here | with_reducible refine Has.there ?_)); done) | (repeat (first | exact Has.here | refine Has.there ?_))) rfl rfl ?_
      refine WL.assign rfl rfl ?_
      refine WL.assign rfl rfl ?_
      refine WL.nil ?_
      refine WX.next ?_
      refine W.sub [(8, _), (9, _)] (.cons rfl (.cons rfl .nil)) ?_
      refine W.ret ?_
      refine WX.ret2 rfl rfl rfl ?_
      obtain rfl : i = ps.length := by omega
      refine ⟨Am, cm, ms, rfl, ?_, hml, M.sel (by first | ((repeat (first | with_reducible exact Sel.refl | with_reducible exact Sel.nil | with_reducible exact Del.here | with_reducible apply Del.there | with_reducible apply Sel.cons | with_reducible apply Sel.drop)); done) | (repeat (first | exact Sel.refl | exact Sel.nil | exact Del.here | apply Del.there | apply Sel.cons | apply Sel.drop)))⟩
      rwa [List.take_of_length_le (by simp)] at hpl
end Go.Proofs.Ytkdkdaljgoibaaa
