/-
  The view and the reference's view, side by side (seawalllaw14.BeatPlays).
-/
import Derived.Test.YtmkhggfcgblefaaDoorBeatRef3
import Derived.Test.YtmkhggfcgblefaaDoorBeatIn
namespace Go.Proofs.YtmkhggfcgblefaaDoor
open Go Go.RowKit Bin

theorem newR_ok {l : List Int} {me pat : Int} (h : ¬ badV l me pat) : (newR l me.toNat pat).Ok 0 := by
  have h1 : ¬ (l.length < 1 ∨ 12 < l.length ∨ me < 0 ∨ (l.length : Int) ≤ me ∨ pat < 1 ∨ 1000 < pat) := fun q => h (.inr q)
  refine ⟨by show 1 ≤ l.length ∧ l.length ≤ 12; omega, List.length_replicate, by show me.toNat < l.length; omega, by show 1 ≤ pat ∧ pat ≤ 1000; omega, by show (0 : Int) ≤ 0 ∧ (0 : Int) ≤ 0; omega, fun j hj => ?_, by show (0 : Int) ≤ 0 ∧ (0 : Int) ≤ 0; omega⟩
  have hj' : j < (List.replicate l.length (-pat)).length := hj
  rw [List.length_replicate] at hj'
  have e : el (newR l me.toNat pat).heard j = -pat := by
    show el (List.replicate l.length (-pat)) j = _
    unfold el
    rw [List.getElem?_replicate, if_pos hj']
    rfl
  rw [e]
  show -1000 ≤ -pat ∧ -pat ≤ (0 : Int)
  omega
set_option maxRecDepth 10000 in
set_option maxHeartbeats 4000000 in
theorem BeatPlays_bad {A : Option Addr} {cap : Nat} {sites : List Int} {A3 : Option Addr} {cap3 : Nat} {l : List Int} (me pat home : Int) (hp : -9223372036854775808 ≤ pat ∧ pat ≤ 9223372036854775807) (hb : badV sites me pat) (w0 : World) (ht : Tab w0) (h : RdL w0 intE A cap sites) (h3 : RdL w0 intE A3 cap3 l) :
    Fn Tryd.prog 3 [.slice A sites.length cap, .int .i64 me, .int .i64 pat, .slice A3 l.length cap3, .int .i64 home] w0 fun v w' => v = .bool true ∧ Mem w0 w' [] := by
  have M := Mem.refl w0
  obtain ⟨w, hw⟩ : ∃ w, w = w0 := ⟨w0, rfl⟩
  refine Fn.enter Tryd.func3 rfl Tryd.ntmps3 rfl ?_
  refine W.sub [(0, _), (1, _), (2, _), (3, _), (4, _)] (.cons rfl (.cons rfl (.cons rfl (.cons rfl (.cons rfl .nil))))) ?_
  refine W.seq ?_
  refine W.region ?_
  refine WL.assign rfl rfl ?_
  refine WL.nil ?_
  refine WX.next ?_
  refine W.sub [(0, _), (1, _), (2, _), (3, _), (4, _)] (.cons rfl (.cons rfl (.cons rfl (.cons rfl (.cons rfl .nil))))) ?_
  refine W.seq ?_
  refine W.seq ?_
  refine W.region ?_
  refine WL.move rfl rfl ?_
  refine WL.len Tryd.underlying22 rfl rfl ?_
  refine WL.gtr rfl rfl rfl ?_
  refine WL.nil ?_
  refine WX.next ?_
  refine W.sub [(0, _), (1, _), (2, _), (3, _), (4, _), (22, _)] (.cons rfl (.cons rfl (.cons rfl (.cons rfl (.cons rfl (.cons rfl .nil)))))) ?_
  refine W.ite rfl (fun c0 => ?_) (fun c0 => ?_)
  · refine W.seq ?_
    refine W.region ?_
    refine WL.call Tryd.call10 rfl (known14_ok _ (ht.mem M)) rfl ?_
    rintro _ w ⟨rfl, m⟩
    replace M := M.call0 m; clear m
    refine WL.assign rfl rfl ?_
    refine WL.nil ?_
    refine WX.next ?_
    refine W.sub [(10, _)] (.cons rfl .nil) ?_
    refine W.ret ?_
    refine WX.thenRet ?_
    refine WX.ret1 rfl rfl ?_
    exact ⟨by simp, M.sel (by first | ((repeat (first | with_reducible exact Sel.refl | with_reducible exact Sel.nil | with_reducible exact Del.here | with_reducible apply Del.there | with_reducible apply Sel.cons | with_reducible apply Sel.drop)); done) | (repeat (first | exact Sel.refl | exact Sel.nil | exact Del.here | apply Del.there | apply Sel.cons | apply Sel.drop)))⟩
  · refine W.skip ?_
    refine WX.next ?_
    refine W.seq ?_
    refine W.region ?_
    refine WL.move rfl rfl ?_
    refine WL.move rfl rfl ?_
    refine WL.move rfl rfl ?_
    refine WL.call Tryd.call11 rfl (New_ok (l := sites) me pat (h.mem M) (by omega)) rfl ?_
    rintro _ w h'
    obtain ⟨rfl, m⟩ : _ = Value.tuple #[.pointer none, .int .i64 2] ∧ Mem _ w [] := by
      rcases h' with ⟨_, q⟩ | ⟨q, _⟩
      · exact q
      · exact absurd hb q
    replace M := M.call0 m; clear m
    refine WL.move rfl rfl ?_
    refine WL.extractL rfl rfl rfl ?_
    refine WL.extractL rfl rfl rfl ?_
    refine WL.assign rfl rfl ?_
    refine WL.assign rfl rfl ?_
    refine WL.nil ?_
    refine WX.next ?_
    refine W.sub [(0, _), (1, _), (2, _), (3, _), (4, _), (11, _), (12, _)] (.cons rfl (.cons rfl (.cons rfl (.cons rfl (.cons rfl (.cons rfl (.cons rfl .nil))))))) ?_
    refine W.seq ?_
    refine W.region ?_
    refine WL.move rfl rfl ?_
    refine WL.move rfl rfl ?_
    refine WL.move rfl rfl ?_
    refine WL.call Tryd.call12 rfl (RNew_ok (l := sites) me pat (h.mem M) (by omega) hp) rfl ?_
    rintro _ w h'
    obtain ⟨rfl, m⟩ : _ = Value.tuple #[.pointer none, .int .i64 2] ∧ Mem _ w [] := by
      rcases h' with ⟨_, q⟩ | ⟨q, _⟩
      · exact q
      · exact absurd hb q
    replace M := M.call0 m; clear m
    refine WL.move rfl rfl ?_
    refine WL.extractL rfl rfl rfl ?_
    refine WL.extractL rfl rfl rfl ?_
    refine WL.assign rfl rfl ?_
    refine WL.assign rfl rfl ?_
    refine WL.nil ?_
    refine WX.next ?_
    refine W.sub [(3, _), (4, _), (11, _), (12, _), (13, _), (14, _)] (.cons rfl (.cons rfl (.cons rfl (.cons rfl (.cons rfl (.cons rfl .nil)))))) ?_
    refine W.seq ?_
    refine W.seq ?_
    refine W.region ?_
    refine WL.move rfl rfl ?_
    refine WL.neI rfl rfl rfl ?_
    refine WL.nil ?_
    refine WX.next ?_
    refine W.sub [(3, _), (4, _), (11, _), (12, _), (13, _), (14, _), (39, _)] (.cons rfl (.cons rfl (.cons rfl (.cons rfl (.cons rfl (.cons rfl (.cons rfl .nil))))))) ?_
    refine W.ite rfl (fun c1 => ?_) (fun c1 => ?_)
    · refine W.seq ?_
      refine W.region ?_
      refine WL.move rfl rfl ?_
      refine WL.eqNilT Tryd.underlying24 rfl rfl rfl ?_
      refine WL.move rfl rfl ?_
      refine WL.on rfl rfl ?_
      refine WL.move rfl rfl ?_
      refine WL.on rfl rfl ?_
      refine WL.move rfl rfl ?_
      refine WL.on rfl rfl ?_
      refine WL.eqI rfl rfl rfl ?_
      refine WL.pickT rfl rfl rfl ?_
      refine WL.moveIf rfl rfl (fun c3 => ?_) (fun c3 => ?_)
      · refine WL.on rfl rfl ?_
        refine WL.call Tryd.call10 rfl (known14_ok _ (ht.mem M)) rfl ?_
        rintro _ w ⟨rfl, m⟩
        replace M := M.call0 m; clear m
        refine WL.pickT rfl rfl rfl ?_
        refine WL.assign rfl rfl ?_
        refine WL.nil ?_
        refine WX.next ?_
        refine W.sub [(10, _)] (.cons rfl .nil) ?_
        refine W.ret ?_
        refine WX.thenRet ?_
        refine WX.ret1 rfl rfl ?_
        exact ⟨by simp, M.sel (.nil)⟩
      · exact absurd rfl c3
    · exact absurd (by decide) c1
set_option maxRecDepth 10000 in
set_option maxHeartbeats 4000000 in
theorem BeatPlays_good {A : Option Addr} {cap : Nat} {sites : List Int} {A3 : Option Addr} {cap3 : Nat} {l : List Int} (me pat home : Int) (hp : -9223372036854775808 ≤ pat ∧ pat ≤ 9223372036854775807) (hg : ¬ badV sites me pat) (w0 : World) (ht : Tab w0) (h : RdL w0 intE A cap sites) (h3 : RdL w0 intE A3 cap3 l) :
    Fn Tryd.prog 3 [.slice A sites.length cap, .int .i64 me, .int .i64 pat, .slice A3 l.length cap3, .int .i64 home] w0 fun v w' => v = .bool true ∧ Mem w0 w' [] := by
  have M := Mem.refl w0
  obtain ⟨w, hw⟩ : ∃ w, w = w0 := ⟨w0, rfl⟩
  refine Fn.enter Tryd.func3 rfl Tryd.ntmps3 rfl ?_
  refine W.sub [(0, _), (1, _), (2, _), (3, _), (4, _)] (.cons rfl (.cons rfl (.cons rfl (.cons rfl (.cons rfl .nil))))) ?_
  refine W.seq ?_
  refine W.region ?_
  refine WL.assign rfl rfl ?_
  refine WL.nil ?_
  refine WX.next ?_
  refine W.sub [(0, _), (1, _), (2, _), (3, _), (4, _)] (.cons rfl (.cons rfl (.cons rfl (.cons rfl (.cons rfl .nil))))) ?_
  refine W.seq ?_
  refine W.seq ?_
  refine W.region ?_
  refine WL.move rfl rfl ?_
  refine WL.len Tryd.underlying22 rfl rfl ?_
  refine WL.gtr rfl rfl rfl ?_
  refine WL.nil ?_
  refine WX.next ?_
  refine W.sub [(0, _), (1, _), (2, _), (3, _), (4, _), (22, _)] (.cons rfl (.cons rfl (.cons rfl (.cons rfl (.cons rfl (.cons rfl .nil)))))) ?_
  refine W.ite rfl (fun c0 => ?_) (fun c0 => ?_)
  · refine W.seq ?_
    refine W.region ?_
    refine WL.call Tryd.call10 rfl (known14_ok _ (ht.mem M)) rfl ?_
    rintro _ w ⟨rfl, m⟩
    replace M := M.call0 m; clear m
    refine WL.assign rfl rfl ?_
    refine WL.nil ?_
    refine WX.next ?_
    refine W.sub [(10, _)] (.cons rfl .nil) ?_
    refine W.ret ?_
    refine WX.thenRet ?_
    refine WX.ret1 rfl rfl ?_
    exact ⟨by simp, M.sel (by first | ((repeat (first | with_reducible exact Sel.refl | with_reducible exact Sel.nil | with_reducible exact Del.here | with_reducible apply Del.there | with_reducible apply Sel.cons | with_reducible apply Sel.drop)); done) | (repeat (first | exact Sel.refl | exact Sel.nil | exact Del.here | apply Del.there | apply Sel.cons | apply Sel.drop)))⟩
  · have hr0 := newR_ok hg
    have hme0 : me.toNat < sites.length := hr0.me
    have hbv := new_bv sites me.toNat (pat := pat) hme0
    have hbad : ¬ (me < 0) := fun q => hg (.inr (.inr (.inr (.inl q))))
    have hok0 : (toBv (newR sites me.toNat pat)).Ok := by rw [hbv]; exact newV_ok (by rw [Int.toNat_of_nonneg (by omega)]; exact hg)
    refine W.skip ?_
    refine WX.next ?_
    refine W.seq ?_
    refine W.region ?_
    refine WL.move rfl rfl ?_
    refine WL.move rfl rfl ?_
    refine WL.move rfl rfl ?_
    refine WL.call Tryd.call11 rfl (New_ok (l := sites) me pat (h.mem M) (by omega)) rfl ?_
    rintro _ w h'
    obtain ⟨a, rfl, m⟩ : ∃ a : BvA, _ = Value.tuple #[.pointer (some ⟨a.g, 0, none⟩), .int .i64 0] ∧ Mem _ w (bvL a (newV sites me.toNat pat)) := by
      rcases h' with ⟨q, _⟩ | ⟨_, q⟩
      · exact absurd q hg
      · exact q
    rw [← hbv] at m
    have M2 : Mem w0 w (bvL a (toBv (newR sites me.toNat pat)) ++ []) := (M.callN m).sel (by first | ((repeat (first | with_reducible exact Sel.refl | with_reducible exact Sel.nil | with_reducible exact Del.here | with_reducible apply Del.there | with_reducible apply Sel.cons | with_reducible apply Sel.drop)); done) | (repeat (first | exact Sel.refl | exact Sel.nil | exact Del.here | apply Del.there | apply Sel.cons | apply Sel.drop)))
    replace M := M2
    refine WL.move rfl rfl ?_
    refine WL.extractL rfl rfl rfl ?_
    refine WL.extractL rfl rfl rfl ?_
    refine WL.assign rfl rfl ?_
    refine WL.assign rfl rfl ?_
    refine WL.nil ?_
    refine WX.next ?_
    refine W.sub [(0, _), (1, _), (2, _), (3, _), (4, _), (11, _), (12, _)] (.cons rfl (.cons rfl (.cons rfl (.cons rfl (.cons rfl (.cons rfl (.cons rfl .nil))))))) ?_
    refine W.seq ?_
    refine W.region ?_
    refine WL.move rfl rfl ?_
    refine WL.move rfl rfl ?_
    refine WL.move rfl rfl ?_
    refine WL.call Tryd.call12 rfl (RNew_ok (l := sites) me pat (h.mem M) (by omega) hp) rfl ?_
    rintro _ w h'
    obtain ⟨b, rfl, m⟩ : ∃ b : BvA, _ = Value.tuple #[.pointer (some ⟨b.g, 0, none⟩), .int .i64 0] ∧ Mem _ w (rvL b (newR sites me.toNat pat)) := by
      rcases h' with ⟨q, _⟩ | ⟨_, q⟩
      · exact absurd q hg
      · exact q
    have M2 : Mem w0 w (rvL b (newR sites me.toNat pat) ++ (bvL a (toBv (newR sites me.toNat pat)) ++ [])) := M.callN m
    replace M := M2
    refine WL.move rfl rfl ?_
    refine WL.extractL rfl rfl rfl ?_
    refine WL.extractL rfl rfl rfl ?_
    refine WL.assign rfl rfl ?_
    refine WL.assign rfl rfl ?_
    refine WL.nil ?_
    refine WX.next ?_
    refine W.sub [(3, _), (4, _), (11, _), (12, _), (13, _), (14, _)] (.cons rfl (.cons rfl (.cons rfl (.cons rfl (.cons rfl (.cons rfl .nil)))))) ?_
    refine W.seq ?_
    refine W.seq ?_
    refine W.region ?_
    refine WL.move rfl rfl ?_
    refine WL.neI rfl rfl rfl ?_
    refine WL.nil ?_
    refine WX.next ?_
    refine W.sub [(3, _), (4, _), (11, _), (12, _), (13, _), (14, _), (39, _)] (.cons rfl (.cons rfl (.cons rfl (.cons rfl (.cons rfl (.cons rfl (.cons rfl .nil))))))) ?_
    refine W.ite rfl (fun c1 => ?_) (fun c1 => ?_)
    · exact absurd rfl c1
    · refine W.skip ?_
      refine WX.next ?_
      refine W.seq ?_
      refine W.seq ?_
      refine W.region ?_
      refine WL.move rfl rfl ?_
      refine WL.eqNilF Tryd.underlying24 rfl rfl rfl ?_
      refine WL.move rfl rfl ?_
      refine WL.on rfl rfl ?_
      refine WL.move rfl rfl ?_
      refine WL.on rfl rfl ?_
      refine WL.neI rfl rfl rfl ?_
      refine WL.pickF rfl rfl rfl ?_
      refine WL.nil ?_
      refine WX.next ?_
      refine W.sub [(3, _), (4, _), (11, _), (13, _), (55, _)] (.cons rfl (.cons rfl (.cons rfl (.cons rfl (.cons rfl .nil))))) ?_
      refine W.ite rfl (fun c5 => ?_) (fun c5 => ?_)
      · exact absurd rfl c5
      · refine W.skip ?_
        refine WX.next ?_
        refine W.joint (fun (_ : Unit) => ([] : List (Nat × Value))) (fun j w => Mem w0 w ((fun _ => []) j) ∧ (fun _ => True) j) ?_ ?_
        · refine W.seq ?_
          refine W.region ?_
          refine WL.assign rfl rfl ?_
          refine WL.nil ?_
          refine WX.next ?_
          refine W.sub [(3, _), (4, _), (11, _), (13, _), (15, _)] (.cons rfl (.cons rfl (.cons rfl (.cons rfl (.cons rfl .nil))))) ?_
          refine W.block ?_
          refine W.loop (ι := Nat × Rv) (fun z => [(3, .slice A3 l.length cap3), (4, .int .i64 home), (11, .pointer (some ⟨a.g, 0, none⟩)), (13, .pointer (some ⟨b.g, 0, none⟩)), (15, .int .i64 (z.1 : Int))]) (fun zz w => Mem w0 w ((fun z => bvL a (toBv z.2) ++ rvL b z.2) zz) ∧ (fun z => z.1 ≤ 300 ∧ z.2.Ok z.1 ∧ (toBv z.2).Ok) zz) (fun z => 300 - z.1) ((0, newR sites me.toNat pat)) (by (repeat' (first | exact envSub.nil | refine envSub.cons ?_ ?_)) <;> first | rfl | (refine congrArg some ?_; refine congrArg (Value.int _) ?_; first | omega | (dsimp only; omega)) | (simp; done) | (refine congrArg some ?_; dsimp only; congr 1; omega) | (simp; omega)) ⟨M.sel (K := bvL a (toBv (newR sites me.toNat pat)) ++ rvL b (newR sites me.toNat pat)) (by first | ((repeat (first | with_reducible exact Sel.refl | with_reducible exact Sel.nil | with_reducible exact Del.here | with_reducible apply Del.there | with_reducible apply Sel.cons | with_reducible apply Sel.drop)); done) | (repeat (first | exact Sel.refl | exact Sel.nil | exact Del.here | apply Del.there | apply Sel.cons | apply Sel.drop))), ⟨Nat.zero_le _, hr0, hok0⟩⟩ ?_
          clear M; rintro (⟨i, r⟩) w ⟨M, ⟨hi, ok, okS⟩⟩; dsimp only at M hi ok okS ⊢
          refine W.sub [(3, _), (4, _), (11, _), (13, _), (15, _)] (.cons rfl (.cons rfl (.cons rfl (.cons rfl (.cons rfl .nil))))) ?_
          refine W.seq ?_
          refine W.seq ?_
          refine W.region ?_
          refine WL.move rfl rfl ?_
          refine WL.move rfl rfl ?_
          refine WL.len Tryd.underlying22 rfl rfl ?_
          refine WL.lss rfl rfl rfl ?_
          refine WL.moveIf rfl rfl (fun c6 => ?_) (fun c6 => ?_)
          · refine WL.on rfl rfl ?_
            refine WL.move rfl rfl ?_
            refine WL.on rfl rfl ?_
            refine WL.lss rfl rfl rfl ?_
            refine WL.pickT rfl rfl rfl ?_
            refine WL.nil ?_
            refine WX.next ?_
            refine W.sub [(3, _), (4, _), (11, _), (13, _), (15, _), (63, _)] (.cons rfl (.cons rfl (.cons rfl (.cons rfl (.cons rfl (.cons rfl .nil)))))) ?_
            refine W.ite rfl (fun c7 => ?_) (fun c7 => ?_)
            · have hil : i < l.length := by omega
              refine W.skip ?_
              refine WX.next ?_
              refine W.seq ?_
              refine W.block ?_
              refine W.joint (fun (_ : Rv) => [(3, .slice A3 l.length cap3), (4, .int .i64 home), (11, .pointer (some ⟨a.g, 0, none⟩)), (13, .pointer (some ⟨b.g, 0, none⟩)), (15, .int .i64 (i : Int))]) (fun j w => Mem w0 w ((fun r => bvL a (toBv r) ++ rvL b r) j) ∧ (fun r => r.Ok ((i + 1 : Nat) : Int) ∧ (toBv r).Ok) j) ?_ ?_
              · refine W.seq ?_
                refine W.region ?_
                refine WL.move rfl rfl ?_
                refine WL.move rfl rfl ?_
                refine WL.idxA Tryd.underlying22 Tryd.sizeOf3 rfl rfl (RdL.isSome (E := intE) (by first | with_reducible assumption | with_reducible exact RdL.mem (by with_reducible assumption) M | exact M.rdL (by first | ((repeat (first | with_reducible exact Has.here | with_reducible refine Has.there ?_)); done) | (repeat (first | exact Has.here | refine Has.there ?_))) | exact RdLH.at (by assumption) (M.sel (by first | ((repeat (first | with_reducible exact Sel.refl | with_reducible exact Sel.nil | with_reducible exact Del.here | with_reducible apply Del.there | with_reducible apply Sel.cons | with_reducible apply Sel.drop)); done) | (repeat (first | exact Sel.refl | exact Sel.nil | exact Del.here | apply Del.there | apply Sel.cons | apply Sel.drop)))) | exact RdL.nil _ _ _) (by omega)) (by omega) (by omega) (by first | exact rfl | exact (Int.toNat_of_nonneg (by omega)).symm) rfl ?_
                refine WL.loadE0 (E := intE) Tryd.isAgg3 rfl (by first | with_reducible assumption | with_reducible exact RdL.mem (by with_reducible assumption) M | exact M.rdL (by first | ((repeat (first | with_reducible exact Has.here | with_reducible refine Has.there ?_)); done) | (repeat (first | exact Has.here | refine Has.there ?_))) | exact RdLH.at (by assumption) (M.sel (by first | ((repeat (first | with_reducible exact Sel.refl | with_reducible exact Sel.nil | with_reducible exact Del.here | with_reducible apply Del.there | with_reducible apply Sel.cons | with_reducible apply Sel.drop)); done) | (repeat (first | exact Sel.refl | exact Sel.nil | exact Del.here | apply Del.there | apply Sel.cons | apply Sel.drop)))) | exact RdL.nil _ _ _) (by omega) rfl rfl ?_
                refine WL.lss rfl rfl rfl ?_
                refine WL.nil ?_
                refine WX.next ?_
                refine W.sub [(3, _), (4, _), (11, _), (13, _), (15, _), (70, _)] (.cons rfl (.cons rfl (.cons rfl (.cons rfl (.cons rfl (.cons rfl .nil)))))) ?_
                refine W.ite rfl (fun c8 => ?_) (fun c8 => ?_)
                · refine W.seq ?_
                  refine W.region ?_
                  refine WL.move rfl rfl ?_
                  refine WL.call Tryd.call13 rfl (Tick_ok2 a (toBv r) okS w0 _ (rvL b r) M) rfl ?_
                  intro _ w M
                  refine WL.nil ?_
                  refine WX.next ?_
                  refine W.sub [(3, _), (4, _), (11, _), (13, _), (15, _)] (.cons rfl (.cons rfl (.cons rfl (.cons rfl (.cons rfl .nil))))) ?_
                  refine W.region ?_
                  refine WL.move rfl rfl ?_
                  refine WL.call Tryd.call14 rfl (RTick_ok b r ok (by omega) w0 _ (bvL a (tickS (toBv r))) (M.sel (K := rvL b r ++ bvL a (tickS (toBv r))) (by first | ((repeat (first | with_reducible exact Sel.refl | with_reducible exact Sel.nil | with_reducible exact Del.here | with_reducible apply Del.there | with_reducible apply Sel.cons | with_reducible apply Sel.drop)); done) | (repeat (first | exact Sel.refl | exact Sel.nil | exact Del.here | apply Del.there | apply Sel.cons | apply Sel.drop))))) rfl ?_
                  intro _ w M
                  have okS2 := okS.tick
                  rw [← tick_bv ok] at M okS2
                  refine WL.nil ?_
                  refine WX.join (tickR r) (by (repeat' (first | exact envSub.nil | refine envSub.cons ?_ ?_)) <;> first | rfl | (refine congrArg some ?_; refine congrArg (Value.int _) ?_; first | omega | (dsimp only; omega)) | (simp; done) | (refine congrArg some ?_; dsimp only; congr 1; omega) | (simp; omega)) ⟨M.sel (K := bvL a (toBv (tickR r)) ++ rvL b (tickR r)) (by first | ((repeat (first | with_reducible exact Sel.refl | with_reducible exact Sel.nil | with_reducible exact Del.here | with_reducible apply Del.there | with_reducible apply Sel.cons | with_reducible apply Sel.drop)); done) | (repeat (first | exact Sel.refl | exact Sel.nil | exact Del.here | apply Del.there | apply Sel.cons | apply Sel.drop))), ⟨by have := tickR_ok ok; exact this, okS2⟩⟩
                · refine W.seq ?_
                  refine W.region ?_
                  refine WL.move rfl rfl ?_
                  refine WL.move rfl rfl ?_
                  refine WL.move rfl rfl ?_
                  refine WL.idxA Tryd.underlying22 Tryd.sizeOf3 rfl rfl (RdL.isSome (E := intE) (by first | with_reducible assumption | with_reducible exact RdL.mem (by with_reducible assumption) M | exact M.rdL (by first | ((repeat (first | with_reducible exact Has.here | with_reducible refine Has.there ?_)); done) | (repeat (first | exact Has.here | refine Has.there ?_))) | exact RdLH.at (by assumption) (M.sel (by first | ((repeat (first | with_reducible exact Sel.refl | with_reducible exact Sel.nil | with_reducible exact Del.here | with_reducible apply Del.there | with_reducible apply Sel.cons | with_reducible apply Sel.drop)); done) | (repeat (first | exact Sel.refl | exact Sel.nil | exact Del.here | apply Del.there | apply Sel.cons | apply Sel.drop)))) | exact RdL.nil _ _ _) (by omega)) (by omega) (by omega) (by first | exact rfl | exact (Int.toNat_of_nonneg (by omega)).symm) rfl ?_
                  refine WL.loadE0 (E := intE) Tryd.isAgg3 rfl (by first | with_reducible assumption | with_reducible exact RdL.mem (by with_reducible assumption) M | exact M.rdL (by first | ((repeat (first | with_reducible exact Has.here | with_reducible refine Has.there ?_)); done) | (repeat (first | exact Has.here | refine Has.there ?_))) | exact RdLH.at (by assumption) (M.sel (by first | ((repeat (first | with_reducible exact Sel.refl | with_reducible exact Sel.nil | with_reducible exact Del.here | with_reducible apply Del.there | with_reducible apply Sel.cons | with_reducible apply Sel.drop)); done) | (repeat (first | exact Sel.refl | exact Sel.nil | exact Del.here | apply Del.there | apply Sel.cons | apply Sel.drop)))) | exact RdL.nil _ _ _) (by omega) rfl rfl ?_
                  refine WL.call Tryd.call15 rfl (Hear_ok2 a (toBv r) okS (el l i) w0 _ (rvL b r) M) rfl ?_
                  rintro _ w ⟨rfl, M⟩
                  refine WL.assign rfl rfl ?_
                  refine WL.nil ?_
                  refine WX.next ?_
                  refine W.sub [(3, _), (4, _), (11, _), (13, _), (15, _), (16, _)] (.cons rfl (.cons rfl (.cons rfl (.cons rfl (.cons rfl (.cons rfl .nil)))))) ?_
                  refine W.seq ?_
                  refine W.region ?_
                  refine WL.move rfl rfl ?_
                  refine WL.move rfl rfl ?_
                  refine WL.move rfl rfl ?_
                  refine WL.idxA Tryd.underlying22 Tryd.sizeOf3 rfl rfl (RdL.isSome (E := intE) (by first | with_reducible assumption | with_reducible exact RdL.mem (by with_reducible assumption) M | exact M.rdL (by first | ((repeat (first | with_reducible exact Has.here | with_reducible refine Has.there ?_)); done) | (repeat (first | exact Has.here | refine Has.there ?_))) | exact RdLH.at (by assumption) (M.sel (by first | ((repeat (first | with_reducible exact Sel.refl | with_reducible exact Sel.nil | with_reducible exact Del.here | with_reducible apply Del.there | with_reducible apply Sel.cons | with_reducible apply Sel.drop)); done) | (repeat (first | exact Sel.refl | exact Sel.nil | exact Del.here | apply Del.there | apply Sel.cons | apply Sel.drop)))) | exact RdL.nil _ _ _) (by omega)) (by omega) (by omega) (by first | exact rfl | exact (Int.toNat_of_nonneg (by omega)).symm) rfl ?_
                  refine WL.loadE0 (E := intE) Tryd.isAgg3 rfl (by first | with_reducible assumption | with_reducible exact RdL.mem (by with_reducible assumption) M | exact M.rdL (by first | ((repeat (first | with_reducible exact Has.here | with_reducible refine Has.there ?_)); done) | (repeat (first | exact Has.here | refine Has.there ?_))) | exact RdLH.at (by assumption) (M.sel (by first | ((repeat (first | with_reducible exact Sel.refl | with_reducible exact Sel.nil | with_reducible exact Del.here | with_reducible apply Del.there | with_reducible apply Sel.cons | with_reducible apply Sel.drop)); done) | (repeat (first | exact Sel.refl | exact Sel.nil | exact Del.here | apply Del.there | apply Sel.cons | apply Sel.drop)))) | exact RdL.nil _ _ _) (by omega) rfl rfl ?_
                  refine WL.call Tryd.call16 rfl (RHear_ok b r ok (by omega) (el l i) w0 _ (bvL a (hearZ (toBv r) (el l i))) (M.sel (K := rvL b r ++ bvL a (hearZ (toBv r) (el l i))) (by first | ((repeat (first | with_reducible exact Sel.refl | with_reducible exact Sel.nil | with_reducible exact Del.here | with_reducible apply Del.there | with_reducible apply Sel.cons | with_reducible apply Sel.drop)); done) | (repeat (first | exact Sel.refl | exact Sel.nil | exact Del.here | apply Del.there | apply Sel.cons | apply Sel.drop))))) rfl ?_
                  rintro _ w ⟨rfl, M⟩
                  have okS2 := okS.hearZ (el l i)
                  rw [← hearZ_bv ok] at M okS2
                  refine WL.assign rfl rfl ?_
                  refine WL.nil ?_
                  refine WX.next ?_
                  refine W.sub [(3, _), (4, _), (11, _), (13, _), (15, _), (16, _), (17, _)] (.cons rfl (.cons rfl (.cons rfl (.cons rfl (.cons rfl (.cons rfl (.cons rfl .nil))))))) ?_
                  refine W.seq ?_
                  refine W.region ?_
                  refine WL.move rfl rfl ?_
                  refine WL.move rfl rfl ?_
                  refine WL.neI rfl rfl rfl ?_
                  refine WL.nil ?_
                  refine WX.next ?_
                  refine W.sub [(3, _), (4, _), (11, _), (13, _), (15, _), (89, _)] (.cons rfl (.cons rfl (.cons rfl (.cons rfl (.cons rfl (.cons rfl .nil)))))) ?_
                  refine W.ite rfl (fun c9 => ?_) (fun c9 => ?_)
                  · exact absurd rfl c9
                  · refine W.skip ?_
                    have ok2 : (hearRZ r (el l i)).Ok ((i + 1 : Nat) : Int) := by
                      have q := hearRZ_ok ok (el l i)
                      exact ⟨q.n, q.len, q.me, q.pat, ⟨q.now.1, by have := q.now.2; omega⟩, q.heard, q.changed⟩
                    refine WX.join (hearRZ r (el l i)) (by (repeat' (first | exact envSub.nil | refine envSub.cons ?_ ?_)) <;> first | rfl | (refine congrArg some ?_; refine congrArg (Value.int _) ?_; first | omega | (dsimp only; omega)) | (simp; done) | (refine congrArg some ?_; dsimp only; congr 1; omega) | (simp; omega)) ⟨M.sel (K := bvL a (toBv (hearRZ r (el l i))) ++ rvL b (hearRZ r (el l i))) (by first | ((repeat (first | with_reducible exact Sel.refl | with_reducible exact Sel.nil | with_reducible exact Del.here | with_reducible apply Del.there | with_reducible apply Sel.cons | with_reducible apply Sel.drop)); done) | (repeat (first | exact Sel.refl | exact Sel.nil | exact Del.here | apply Del.there | apply Sel.cons | apply Sel.drop))), ⟨ok2, okS2⟩⟩
              clear M; rintro (r) w ⟨M, ⟨ok, okS⟩⟩; dsimp only at M ok okS ⊢
              refine W.sub [(3, _), (4, _), (11, _), (13, _), (15, _)] (.cons rfl (.cons rfl (.cons rfl (.cons rfl (.cons rfl .nil))))) ?_
              refine W.seq ?_
              refine W.region ?_
              refine WL.move rfl rfl ?_
              refine WL.move rfl rfl ?_
              refine WL.call Tryd.call17 rfl (Order_ok a (toBv r) okS home w0 _ (rvL b r) M ht) rfl ?_
              rintro _ w ⟨B1, k1, rfl, M⟩
              refine WL.assign rfl rfl ?_
              refine WL.nil ?_
              refine WX.next ?_
              refine W.sub [(3, _), (4, _), (11, _), (13, _), (15, _), (18, _)] (.cons rfl (.cons rfl (.cons rfl (.cons rfl (.cons rfl (.cons rfl .nil)))))) ?_
              refine W.seq ?_
              refine W.region ?_
              refine WL.move rfl rfl ?_
              refine WL.move rfl rfl ?_
              refine WL.call Tryd.call18 rfl (ROrder_ok b r ok (by omega) home w0 _ (bvL a (toBv r) ++ [Asr.lst intE B1 k1 (ordS (toBv r) home)]) (M.sel (K := rvL b r ++ (bvL a (toBv r) ++ [Asr.lst intE B1 k1 (ordS (toBv r) home)])) (by first | ((repeat (first | with_reducible exact Sel.refl | with_reducible exact Sel.nil | with_reducible exact Del.here | with_reducible apply Del.there | with_reducible apply Sel.cons | with_reducible apply Sel.drop)); done) | (repeat (first | exact Sel.refl | exact Sel.nil | exact Del.here | apply Del.there | apply Sel.cons | apply Sel.drop))))) rfl ?_
              rintro _ w ⟨B2, k2, rfl, M⟩
              have hx0 := ordS_ne okS home
              have hxl := ord_len (toBv r) home
              obtain ⟨x, hx⟩ : ∃ x, ordS (toBv r) home = x := ⟨_, rfl⟩
              rw [hx] at M hx0 hxl ⊢
              have M2 : Mem w0 w (bvL a (toBv r) ++ (rvL b r ++ [Asr.lst intE B1 k1 x, Asr.lst intE B2 k2 x])) := M.sel (by first | ((repeat (first | with_reducible exact Sel.refl | with_reducible exact Sel.nil | with_reducible exact Del.here | with_reducible apply Del.there | with_reducible apply Sel.cons | with_reducible apply Sel.drop)); done) | (repeat (first | exact Sel.refl | exact Sel.nil | exact Del.here | apply Del.there | apply Sel.cons | apply Sel.drop)))
              replace M := M2
              refine WL.assign rfl rfl ?_
              refine WL.nil ?_
              refine WX.next ?_
              refine W.sub [(3, _), (4, _), (11, _), (13, _), (15, _), (18, _), (19, _)] (.cons rfl (.cons rfl (.cons rfl (.cons rfl (.cons rfl (.cons rfl (.cons rfl .nil))))))) ?_
              refine W.seq ?_
              refine W.drawM (bvL a (toBv r) ++ (rvL b r ++ [Asr.lst intE B1 k1 x, Asr.lst intE B2 k2 x])) (by kernel_rfl) (fun j => [13, 14, 15, 16, 17, 18, 19, 20, 21, 22, 23, 46, 47, 48].contains j) M (by first | ((repeat (first | with_reducible exact Sel.refl | with_reducible exact Sel.nil | with_reducible exact Del.here | with_reducible apply Del.there | with_reducible apply Sel.cons | with_reducible apply Sel.drop)); done) | (repeat (first | exact Sel.refl | exact Sel.nil | exact Del.here | apply Del.there | apply Sel.cons | apply Sel.drop))) ?_
              clear M; intro M
              apply DG.pure_ [0, 2] 52 rfl (by kernel_rfl) (by kernel_rfl)
              · intro w
                refine WL.move rfl rfl ?_
                refine WL.move rfl rfl ?_
                exact Chain.end_ rfl
              refine DG.step 1 51 rfl (by kernel_rfl) ?_
              refine WL.call Tryd.call19 rfl (Up_ok2 a (toBv r) okS w0 _ (rvL b r ++ [Asr.lst intE B1 k1 x, Asr.lst intE B2 k2 x]) M) rfl ?_
              rintro _ w ⟨rfl, M⟩
              refine DG.go (G := fun j => [13, 14, 15, 16, 17, 18, 19, 20, 21, 22, 23, 46, 47, 48].contains j) (i := 1) (f' := 51) (done := [0, 2]) (fun h => by cases h) ?_
              refine DG.step 3 50 rfl (by kernel_rfl) ?_
              refine WL.call Tryd.call20 rfl (RUp_ok b r ok (by omega) w0 _ (bvL a (toBv r) ++ [Asr.lst intE B1 k1 x, Asr.lst intE B2 k2 x]) (M.sel (K := rvL b r ++ (bvL a (toBv r) ++ [Asr.lst intE B1 k1 x, Asr.lst intE B2 k2 x])) (by first | ((repeat (first | with_reducible exact Sel.refl | with_reducible exact Sel.nil | with_reducible exact Del.here | with_reducible apply Del.there | with_reducible apply Sel.cons | with_reducible apply Sel.drop)); done) | (repeat (first | exact Sel.refl | exact Sel.nil | exact Del.here | apply Del.there | apply Sel.cons | apply Sel.drop))))) rfl ?_
              rintro _ w ⟨rfl, M⟩
              replace M := M.sel (K := bvL a (toBv r) ++ (rvL b r ++ [Asr.lst intE B1 k1 x, Asr.lst intE B2 k2 x])) (by first | ((repeat (first | with_reducible exact Sel.refl | with_reducible exact Sel.nil | with_reducible exact Del.here | with_reducible apply Del.there | with_reducible apply Sel.cons | with_reducible apply Sel.drop)); done) | (repeat (first | exact Sel.refl | exact Sel.nil | exact Del.here | apply Del.there | apply Sel.cons | apply Sel.drop)))
              refine DG.go (G := fun j => [13, 14, 15, 16, 17, 18, 19, 20, 21, 22, 23, 46, 47, 48].contains j) (i := 3) (f' := 50) (done := [0, 2, 1]) (fun h => by cases h) ?_
              apply DG.pure_ [4] 49 rfl (by kernel_rfl) (by kernel_rfl)
              · intro w
                refine WL.neI rfl rfl rfl ?_
                exact Chain.end_ rfl
              refine DG.knowP (t := 100) rfl (fun c10 => ?_) (fun c10 => ?_)
              · exact absurd rfl c10
              · apply DG.pure_ [5, 6, 8] 46 rfl (by kernel_rfl) (by kernel_rfl)
                · intro w
                  refine WL.move rfl rfl ?_
                  refine WL.on rfl rfl ?_
                  refine WL.move rfl rfl ?_
                  refine WL.on rfl rfl ?_
                  refine WL.move rfl rfl ?_
                  exact Chain.end_ rfl
                refine DG.step 7 45 rfl (by kernel_rfl) ?_
                refine WL.on rfl rfl ?_
                refine WL.call Tryd.call21 rfl (Calm_ok a (toBv r) w0 _ (rvL b r ++ [Asr.lst intE B1 k1 x, Asr.lst intE B2 k2 x]) M) rfl ?_
                rintro _ _ ⟨rfl, rfl⟩
                refine DG.go (G := fun j => [13, 14, 15, 16, 17, 18, 19, 20, 21, 22, 23, 46, 47, 48].contains j) (i := 7) (f' := 45) (done := [0, 2, 1, 3, 4, 5, 6, 8]) (fun h => by cases h) ?_
                refine DG.step 9 44 rfl (by kernel_rfl) ?_
                refine WL.on rfl rfl ?_
                refine WL.call Tryd.call22 rfl (RCalm_ok b r ok (by omega) w0 _ (bvL a (toBv r) ++ [Asr.lst intE B1 k1 x, Asr.lst intE B2 k2 x]) (M.sel (K := rvL b r ++ (bvL a (toBv r) ++ [Asr.lst intE B1 k1 x, Asr.lst intE B2 k2 x])) (by first | ((repeat (first | with_reducible exact Sel.refl | with_reducible exact Sel.nil | with_reducible exact Del.here | with_reducible apply Del.there | with_reducible apply Sel.cons | with_reducible apply Sel.drop)); done) | (repeat (first | exact Sel.refl | exact Sel.nil | exact Del.here | apply Del.there | apply Sel.cons | apply Sel.drop))))) rfl ?_
                rintro _ w ⟨rfl, M⟩
                replace M := M.sel (K := bvL a (toBv r) ++ (rvL b r ++ [Asr.lst intE B1 k1 x, Asr.lst intE B2 k2 x])) (by first | ((repeat (first | with_reducible exact Sel.refl | with_reducible exact Sel.nil | with_reducible exact Del.here | with_reducible apply Del.there | with_reducible apply Sel.cons | with_reducible apply Sel.drop)); done) | (repeat (first | exact Sel.refl | exact Sel.nil | exact Del.here | apply Del.there | apply Sel.cons | apply Sel.drop)))
                refine DG.go (G := fun j => [13, 14, 15, 16, 17, 18, 19, 20, 21, 22, 23, 46, 47, 48].contains j) (i := 9) (f' := 44) (done := [0, 2, 1, 3, 4, 5, 6, 8, 7]) (fun h => by cases h) ?_
                apply DG.pure_ [10, 11] 42 rfl (by kernel_rfl) (by kernel_rfl)
                · intro w
                  refine WL.on rfl rfl ?_
                  refine WL.neI rfl rfl rfl ?_
                  refine WL.pickF rfl rfl rfl ?_
                  exact Chain.end_ rfl
                refine DG.knowP (t := 107) rfl (fun c11 => ?_) (fun c11 => ?_)
                · exact absurd rfl c11
                · apply DG.pure_ [12] 41 rfl (by kernel_rfl) (by kernel_rfl)
                  · intro w
                    refine WL.move rfl rfl ?_
                    exact Chain.end_ rfl
                  apply DG.take [13, 14, 15, 16, 17, 19, 20, 21, 22, 23] 31 rfl (by kernel_rfl) (by kernel_rfl) (M.sel (by first | ((repeat (first | with_reducible exact Sel.refl | with_reducible exact Sel.nil | with_reducible exact Del.here | with_reducible apply Del.there | with_reducible apply Sel.cons | with_reducible apply Sel.drop)); done) | (repeat (first | exact Sel.refl | exact Sel.nil | exact Del.here | apply Del.there | apply Sel.cons | apply Sel.drop))))
                  · intro w M
                    refine WL.on rfl rfl ?_
                    refine WL.move rfl rfl ?_
                    refine WL.on rfl rfl ?_
                    refine WL.move rfl rfl ?_
                    refine WL.on rfl rfl ?_
                    refine WL.move rfl rfl ?_
                    refine WL.on rfl rfl ?_
                    refine WL.idxA Tryd.underlying22 Tryd.sizeOf3 rfl rfl (RdL.isSome (E := intE) (by first | with_reducible assumption | with_reducible exact RdL.mem (by with_reducible assumption) M | exact M.rdL (by first | ((repeat (first | with_reducible exact Has.here | with_reducible refine Has.there ?_)); done) | (repeat (first | exact Has.here | refine Has.there ?_))) | exact RdLH.at (by assumption) (M.sel (by first | ((repeat (first | with_reducible exact Sel.refl | with_reducible exact Sel.nil | with_reducible exact Del.here | with_reducible apply Del.there | with_reducible apply Sel.cons | with_reducible apply Sel.drop)); done) | (repeat (first | exact Sel.refl | exact Sel.nil | exact Del.here | apply Del.there | apply Sel.cons | apply Sel.drop)))) | exact RdL.nil _ _ _) (by omega)) (by omega) (by omega) (by first | exact rfl | exact (Int.toNat_of_nonneg (by omega)).symm) rfl ?_
                    refine WL.on rfl rfl ?_
                    refine WL.loadE0 (E := intE) Tryd.isAgg3 rfl (by first | with_reducible assumption | with_reducible exact RdL.mem (by with_reducible assumption) M | exact M.rdL (by first | ((repeat (first | with_reducible exact Has.here | with_reducible refine Has.there ?_)); done) | (repeat (first | exact Has.here | refine Has.there ?_))) | exact RdLH.at (by assumption) (M.sel (by first | ((repeat (first | with_reducible exact Sel.refl | with_reducible exact Sel.nil | with_reducible exact Del.here | with_reducible apply Del.there | with_reducible apply Sel.cons | with_reducible apply Sel.drop)); done) | (repeat (first | exact Sel.refl | exact Sel.nil | exact Del.here | apply Del.there | apply Sel.cons | apply Sel.drop)))) | exact RdL.nil _ _ _) (by omega) rfl rfl ?_
                    refine WL.on rfl rfl ?_
                    refine WL.move rfl rfl ?_
                    refine WL.on rfl rfl ?_
                    refine WL.move rfl rfl ?_
                    refine WL.on rfl rfl ?_
                    refine WL.move rfl rfl ?_
                    refine WL.on rfl rfl ?_
                    refine WL.idxA Tryd.underlying22 Tryd.sizeOf3 rfl rfl (RdL.isSome (E := intE) (by first | with_reducible assumption | with_reducible exact RdL.mem (by with_reducible assumption) M | exact M.rdL (by first | ((repeat (first | with_reducible exact Has.here | with_reducible refine Has.there ?_)); done) | (repeat (first | exact Has.here | refine Has.there ?_))) | exact RdLH.at (by assumption) (M.sel (by first | ((repeat (first | with_reducible exact Sel.refl | with_reducible exact Sel.nil | with_reducible exact Del.here | with_reducible apply Del.there | with_reducible apply Sel.cons | with_reducible apply Sel.drop)); done) | (repeat (first | exact Sel.refl | exact Sel.nil | exact Del.here | apply Del.there | apply Sel.cons | apply Sel.drop)))) | exact RdL.nil _ _ _) (by omega)) (by omega) (by omega) (by first | exact rfl | exact (Int.toNat_of_nonneg (by omega)).symm) rfl ?_
                    refine WL.on rfl rfl ?_
                    refine WL.loadE0 (E := intE) Tryd.isAgg3 rfl (by first | with_reducible assumption | with_reducible exact RdL.mem (by with_reducible assumption) M | exact M.rdL (by first | ((repeat (first | with_reducible exact Has.here | with_reducible refine Has.there ?_)); done) | (repeat (first | exact Has.here | refine Has.there ?_))) | exact RdLH.at (by assumption) (M.sel (by first | ((repeat (first | with_reducible exact Sel.refl | with_reducible exact Sel.nil | with_reducible exact Del.here | with_reducible apply Del.there | with_reducible apply Sel.cons | with_reducible apply Sel.drop)); done) | (repeat (first | exact Sel.refl | exact Sel.nil | exact Del.here | apply Del.there | apply Sel.cons | apply Sel.drop)))) | exact RdL.nil _ _ _) (by omega) rfl rfl ?_
                    exact Chain.end_ rfl
                  refine DG.step 18 30 rfl (by kernel_rfl) ?_
                  refine WL.on rfl rfl ?_
                  refine WL.call Tryd.call23 rfl (Since_ok a (toBv r) okS.len (el l i) w0 _ (rvL b r ++ [Asr.lst intE B1 k1 x, Asr.lst intE B2 k2 x]) M) rfl ?_
                  rintro _ _ ⟨rfl, rfl⟩
                  refine DG.go (G := fun j => [13, 14, 15, 16, 17, 18, 19, 20, 21, 22, 23, 46, 47, 48].contains j) (i := 18) (f' := 30) (done := [0, 2, 1, 3, 4, 5, 6, 8, 7, 9, 10, 11, 12, 13, 14, 15, 16, 17, 19, 20, 21, 22, 23]) (fun _ => M.sel (by first | ((repeat (first | with_reducible exact Sel.refl | with_reducible exact Sel.nil | with_reducible exact Del.here | with_reducible apply Del.there | with_reducible apply Sel.cons | with_reducible apply Sel.drop)); done) | (repeat (first | exact Sel.refl | exact Sel.nil | exact Del.here | apply Del.there | apply Sel.cons | apply Sel.drop)))) ?_
                  refine DG.step 24 29 rfl (by kernel_rfl) ?_
                  refine WL.on rfl rfl ?_
                  refine WL.call Tryd.call24 rfl (RSince_ok b r ok (by omega) (el l i) w0 _ (bvL a (toBv r) ++ [Asr.lst intE B1 k1 x, Asr.lst intE B2 k2 x]) (M.sel (K := rvL b r ++ (bvL a (toBv r) ++ [Asr.lst intE B1 k1 x, Asr.lst intE B2 k2 x])) (by first | ((repeat (first | with_reducible exact Sel.refl | with_reducible exact Sel.nil | with_reducible exact Del.here | with_reducible apply Del.there | with_reducible apply Sel.cons | with_reducible apply Sel.drop)); done) | (repeat (first | exact Sel.refl | exact Sel.nil | exact Del.here | apply Del.there | apply Sel.cons | apply Sel.drop))))) rfl ?_
                  rintro _ w ⟨rfl, M⟩
                  replace M := M.sel (K := bvL a (toBv r) ++ (rvL b r ++ [Asr.lst intE B1 k1 x, Asr.lst intE B2 k2 x])) (by first | ((repeat (first | with_reducible exact Sel.refl | with_reducible exact Sel.nil | with_reducible exact Del.here | with_reducible apply Del.there | with_reducible apply Sel.cons | with_reducible apply Sel.drop)); done) | (repeat (first | exact Sel.refl | exact Sel.nil | exact Del.here | apply Del.there | apply Sel.cons | apply Sel.drop)))
                  refine DG.go (G := fun j => [13, 14, 15, 16, 17, 18, 19, 20, 21, 22, 23, 46, 47, 48].contains j) (i := 24) (f' := 29) (done := [0, 2, 1, 3, 4, 5, 6, 8, 7, 9, 10, 11, 12, 13, 14, 15, 16, 17, 19, 20, 21, 22, 23, 18]) (fun h => by cases h) ?_
                  apply DG.pure_ [25, 26] 27 rfl (by kernel_rfl) (by kernel_rfl)
                  · intro w
                    refine WL.on rfl rfl ?_
                    refine WL.neI rfl rfl rfl ?_
                    refine WL.pickF rfl rfl rfl ?_
                    exact Chain.end_ rfl
                  refine DG.knowP (t := 122) rfl (fun c12 => ?_) (fun c12 => ?_)
                  · exact absurd rfl c12
                  · apply DG.pure_ [27, 28, 30] 24 rfl (by kernel_rfl) (by kernel_rfl)
                    · intro w
                      refine WL.move rfl rfl ?_
                      refine WL.on rfl rfl ?_
                      refine WL.move rfl rfl ?_
                      refine WL.on rfl rfl ?_
                      refine WL.move rfl rfl ?_
                      exact Chain.end_ rfl
                    refine DG.step 29 23 rfl (by kernel_rfl) ?_
                    refine WL.on rfl rfl ?_
                    refine WL.call Tryd.call23 rfl (Since_ok a (toBv r) okS.len 0 w0 _ (rvL b r ++ [Asr.lst intE B1 k1 x, Asr.lst intE B2 k2 x]) M) rfl ?_
                    rintro _ _ ⟨rfl, rfl⟩
                    refine DG.go (G := fun j => [13, 14, 15, 16, 17, 18, 19, 20, 21, 22, 23, 46, 47, 48].contains j) (i := 29) (f' := 23) (done := [0, 2, 1, 3, 4, 5, 6, 8, 7, 9, 10, 11, 12, 13, 14, 15, 16, 17, 19, 20, 21, 22, 23, 18, 24, 25, 26, 27, 28, 30]) (fun h => by cases h) ?_
                    refine DG.step 31 22 rfl (by kernel_rfl) ?_
                    refine WL.on rfl rfl ?_
                    refine WL.call Tryd.call24 rfl (RSince_ok b r ok (by omega) 0 w0 _ (bvL a (toBv r) ++ [Asr.lst intE B1 k1 x, Asr.lst intE B2 k2 x]) (M.sel (K := rvL b r ++ (bvL a (toBv r) ++ [Asr.lst intE B1 k1 x, Asr.lst intE B2 k2 x])) (by first | ((repeat (first | with_reducible exact Sel.refl | with_reducible exact Sel.nil | with_reducible exact Del.here | with_reducible apply Del.there | with_reducible apply Sel.cons | with_reducible apply Sel.drop)); done) | (repeat (first | exact Sel.refl | exact Sel.nil | exact Del.here | apply Del.there | apply Sel.cons | apply Sel.drop))))) rfl ?_
                    rintro _ w ⟨rfl, M⟩
                    replace M := M.sel (K := bvL a (toBv r) ++ (rvL b r ++ [Asr.lst intE B1 k1 x, Asr.lst intE B2 k2 x])) (by first | ((repeat (first | with_reducible exact Sel.refl | with_reducible exact Sel.nil | with_reducible exact Del.here | with_reducible apply Del.there | with_reducible apply Sel.cons | with_reducible apply Sel.drop)); done) | (repeat (first | exact Sel.refl | exact Sel.nil | exact Del.here | apply Del.there | apply Sel.cons | apply Sel.drop)))
                    refine DG.go (G := fun j => [13, 14, 15, 16, 17, 18, 19, 20, 21, 22, 23, 46, 47, 48].contains j) (i := 31) (f' := 22) (done := [0, 2, 1, 3, 4, 5, 6, 8, 7, 9, 10, 11, 12, 13, 14, 15, 16, 17, 19, 20, 21, 22, 23, 18, 24, 25, 26, 27, 28, 30, 29]) (fun h => by cases h) ?_
                    apply DG.pure_ [32, 33] 20 rfl (by kernel_rfl) (by kernel_rfl)
                    · intro w
                      refine WL.on rfl rfl ?_
                      refine WL.neI rfl rfl rfl ?_
                      refine WL.pickF rfl rfl rfl ?_
                      exact Chain.end_ rfl
                    refine DG.knowP (t := 129) rfl (fun c13 => ?_) (fun c13 => ?_)
                    · exact absurd rfl c13
                    · apply DG.pure_ [34, 35, 36] 17 rfl (by kernel_rfl) (by kernel_rfl)
                      · intro w
                        refine WL.move rfl rfl ?_
                        refine WL.on rfl rfl ?_
                        refine WL.move rfl rfl ?_
                        refine WL.on rfl rfl ?_
                        refine WL.move rfl rfl ?_
                        exact Chain.end_ rfl
                      refine DG.step 37 16 rfl (by kernel_rfl) ?_
                      refine WL.on rfl rfl ?_
                      refine WL.call Tryd.call25 rfl (SameInts_ok (ps := x) (qs := x) (M.rdL (by first | ((repeat (first | with_reducible exact Has.here | with_reducible refine Has.there ?_)); done) | (repeat (first | exact Has.here | refine Has.there ?_)))) (M.rdL (by first | ((repeat (first | with_reducible exact Has.here | with_reducible refine Has.there ?_)); done) | (repeat (first | exact Has.here | refine Has.there ?_)))) hxl) rfl ?_
                      rintro _ w ⟨rfl, m⟩
                      replace M := M.call0 m; clear m
                      refine DG.go (G := fun j => [13, 14, 15, 16, 17, 18, 19, 20, 21, 22, 23, 46, 47, 48].contains j) (i := 37) (f' := 16) (done := [0, 2, 1, 3, 4, 5, 6, 8, 7, 9, 10, 11, 12, 13, 14, 15, 16, 17, 19, 20, 21, 22, 23, 18, 24, 25, 26, 27, 28, 30, 29, 31, 32, 33, 34, 35, 36]) (fun h => by cases h) ?_
                      apply DG.pure_ [38, 39] 14 rfl (by kernel_rfl) (by kernel_rfl)
                      · intro w
                        refine WL.on rfl rfl ?_
                        refine WL.not rfl rfl ?_
                        refine WL.pickF rfl rfl rfl ?_
                        exact Chain.end_ rfl
                      refine DG.know (t := 135) rfl (fun c14 => ?_) (fun c14 => ?_)
                      · (try simp only [Bool.not_eq_true'] at c14); (try simp only [Bool.not_eq_false'] at c14); (try simp only [decide_eq_true_eq] at c14); (try simp only [decide_eq_false_iff_not] at c14)
                        exact absurd trivial c14
                      · (try simp only [Bool.not_eq_true'] at c14); (try simp only [Bool.not_eq_false'] at c14); (try simp only [decide_eq_true_eq] at c14); (try simp only [decide_eq_false_iff_not] at c14)
                        apply DG.pure_ [40, 41, 42, 43, 44] 9 rfl (by kernel_rfl) (by kernel_rfl)
                        · intro w
                          refine WL.move rfl rfl ?_
                          refine WL.on rfl rfl ?_
                          refine WL.move rfl rfl ?_
                          refine WL.on rfl rfl ?_
                          refine WL.len Tryd.underlying22 rfl rfl ?_
                          refine WL.on rfl rfl ?_
                          refine WL.eqI rfl rfl rfl ?_
                          refine WL.pickF rfl rfl rfl ?_
                          exact Chain.end_ rfl
                        refine DG.knowP (t := 140) rfl (fun c15 => ?_) (fun c15 => ?_)
                        · omega
                        · apply DG.pure_ [45, 49, 50] 6 rfl (by kernel_rfl) (by kernel_rfl)
                          · intro w
                            refine WL.move rfl rfl ?_
                            refine WL.on rfl rfl ?_
                            refine WL.move rfl rfl ?_
                            refine WL.on rfl rfl ?_
                            refine WL.idxA (jn := 0) Tryd.underlying22 Tryd.sizeOf3 rfl rfl (RdL.isSome (E := intE) (by first | with_reducible assumption | with_reducible exact RdL.mem (by with_reducible assumption) M | exact M.rdL (by first | ((repeat (first | with_reducible exact Has.here | with_reducible refine Has.there ?_)); done) | (repeat (first | exact Has.here | refine Has.there ?_))) | exact RdLH.at (by assumption) (M.sel (by first | ((repeat (first | with_reducible exact Sel.refl | with_reducible exact Sel.nil | with_reducible exact Del.here | with_reducible apply Del.there | with_reducible apply Sel.cons | with_reducible apply Sel.drop)); done) | (repeat (first | exact Sel.refl | exact Sel.nil | exact Del.here | apply Del.there | apply Sel.cons | apply Sel.drop)))) | exact RdL.nil _ _ _) (by omega)) (by omega) (by omega) (by first | exact rfl | exact (Int.toNat_of_nonneg (by omega)).symm) rfl ?_
                            exact Chain.end_ rfl
                          apply DG.take [51] 5 rfl (by kernel_rfl) (by kernel_rfl) (M.sel (by first | ((repeat (first | with_reducible exact Sel.refl | with_reducible exact Sel.nil | with_reducible exact Del.here | with_reducible apply Del.there | with_reducible apply Sel.cons | with_reducible apply Sel.drop)); done) | (repeat (first | exact Sel.refl | exact Sel.nil | exact Del.here | apply Del.there | apply Sel.cons | apply Sel.drop))))
                          · intro w M
                            refine WL.on rfl rfl ?_
                            refine WL.loadE0 (E := intE) Tryd.isAgg3 rfl (by first | with_reducible assumption | with_reducible exact RdL.mem (by with_reducible assumption) M | exact M.rdL (by first | ((repeat (first | with_reducible exact Has.here | with_reducible refine Has.there ?_)); done) | (repeat (first | exact Has.here | refine Has.there ?_))) | exact RdLH.at (by assumption) (M.sel (by first | ((repeat (first | with_reducible exact Sel.refl | with_reducible exact Sel.nil | with_reducible exact Del.here | with_reducible apply Del.there | with_reducible apply Sel.cons | with_reducible apply Sel.drop)); done) | (repeat (first | exact Sel.refl | exact Sel.nil | exact Del.here | apply Del.there | apply Sel.cons | apply Sel.drop)))) | exact RdL.nil _ _ _) (by omega) rfl rfl ?_
                            exact Chain.end_ rfl
                          apply DG.take [46, 47] 3 rfl (by kernel_rfl) (by kernel_rfl) (M.sel (by first | ((repeat (first | with_reducible exact Sel.refl | with_reducible exact Sel.nil | with_reducible exact Del.here | with_reducible apply Del.there | with_reducible apply Sel.cons | with_reducible apply Sel.drop)); done) | (repeat (first | exact Sel.refl | exact Sel.nil | exact Del.here | apply Del.there | apply Sel.cons | apply Sel.drop))))
                          · intro w M
                            refine WL.on rfl rfl ?_
                            refine WL.move rfl rfl ?_
                            refine WL.on rfl rfl ?_
                            refine WL.move rfl rfl ?_
                            exact Chain.end_ rfl
                          refine DG.step 48 2 rfl (by kernel_rfl) ?_
                          refine WL.on rfl rfl ?_
                          refine WL.call Tryd.call26 rfl (Leader_ok a (toBv r) okS home w0 _ (rvL b r ++ [Asr.lst intE B1 k1 x, Asr.lst intE B2 k2 x]) M ht) rfl ?_
                          rintro _ w ⟨rfl, M⟩
                          refine DG.go (G := fun j => [13, 14, 15, 16, 17, 18, 19, 20, 21, 22, 23, 46, 47, 48].contains j) (i := 48) (f' := 2) (done := [0, 2, 1, 3, 4, 5, 6, 8, 7, 9, 10, 11, 12, 13, 14, 15, 16, 17, 19, 20, 21, 22, 23, 18, 24, 25, 26, 27, 28, 30, 29, 31, 32, 33, 34, 35, 36, 37, 38, 39, 40, 41, 42, 43, 44, 45, 49, 50, 51, 46, 47]) (fun _ => M.sel (by first | ((repeat (first | with_reducible exact Sel.refl | with_reducible exact Sel.nil | with_reducible exact Del.here | with_reducible apply Del.there | with_reducible apply Sel.cons | with_reducible apply Sel.drop)); done) | (repeat (first | exact Sel.refl | exact Sel.nil | exact Del.here | apply Del.there | apply Sel.cons | apply Sel.drop)))) ?_
                          apply DG.pure_ [52, 53] 0 rfl (by kernel_rfl) (by kernel_rfl)
                          · intro w
                            refine WL.on rfl rfl ?_
                            refine WL.neI rfl rfl rfl ?_
                            refine WL.pickF rfl rfl rfl ?_
                            exact Chain.end_ rfl
                          refine DG.end_ (by kernel_rfl) ?_
                          refine WX.next ?_
                          refine W.sub [(3, _), (4, _), (11, _), (13, _), (15, _), (149, _)] (.cons rfl (.cons rfl (.cons rfl (.cons rfl (.cons rfl (.cons rfl .nil)))))) ?_
                          refine W.ite rfl (fun c16 => ?_) (fun c16 => ?_)
                          · exact absurd (by rw [hx]) c16
                          · refine W.skip ?_
                            refine WX.blockNormal ?_
                            refine WX.next ?_
                            refine W.region ?_
                            refine WL.move rfl rfl ?_
                            refine WL.add rfl rfl (by first | exact wI64 (by omega) | rfl) rfl ?_
                            refine WL.assign rfl rfl ?_
                            refine WL.nil ?_
                            refine WX.round ((i + 1, r)) (by (repeat' (first | exact envSub.nil | refine envSub.cons ?_ ?_)) <;> first | rfl | (refine congrArg some ?_; refine congrArg (Value.int _) ?_; first | omega | (dsimp only; omega)) | (simp; done) | (refine congrArg some ?_; dsimp only; congr 1; omega) | (simp; omega)) ⟨M.sel (by first | ((repeat (first | with_reducible exact Sel.refl | with_reducible exact Sel.nil | with_reducible exact Del.here | with_reducible apply Del.there | with_reducible apply Sel.cons | with_reducible apply Sel.drop)); done) | (repeat (first | exact Sel.refl | exact Sel.nil | exact Del.here | apply Del.there | apply Sel.cons | apply Sel.drop))), ⟨by dsimp only; omega, ok, okS⟩⟩ (by first | omega | (dsimp only; omega))
            · refine W.exit ?_
              refine WX.thenExit ?_
              refine WX.thenExit ?_
              refine WX.blockHere ?_
              refine WX.join (()) (by (repeat' (first | exact envSub.nil | refine envSub.cons ?_ ?_)) <;> first | rfl | (refine congrArg some ?_; refine congrArg (Value.int _) ?_; first | omega | (dsimp only; omega)) | (simp; done) | (refine congrArg some ?_; dsimp only; congr 1; omega) | (simp; omega)) ⟨M.sel (.nil), trivial⟩
          · refine WL.off rfl rfl rfl rfl ?_
            refine WL.off rfl rfl rfl rfl ?_
            refine WL.pickF rfl rfl rfl ?_
            refine WL.nil ?_
            refine WX.next ?_
            refine W.sub [(3, _), (4, _), (11, _), (13, _), (15, _), (63, _)] (.cons rfl (.cons rfl (.cons rfl (.cons rfl (.cons rfl (.cons rfl .nil)))))) ?_
            refine W.condF rfl ?_
            refine W.exit ?_
            refine WX.thenExit ?_
            refine WX.thenExit ?_
            refine WX.blockHere ?_
            refine WX.join (()) (by (repeat' (first | exact envSub.nil | refine envSub.cons ?_ ?_)) <;> first | rfl | (refine congrArg some ?_; refine congrArg (Value.int _) ?_; first | omega | (dsimp only; omega)) | (simp; done) | (refine congrArg some ?_; dsimp only; congr 1; omega) | (simp; omega)) ⟨M.sel (.nil), trivial⟩
        clear M; rintro (_) w ⟨M, -⟩; dsimp only at M ⊢
        refine W.sub [] .nil ?_
        refine W.seq ?_
        refine W.region ?_
        refine WL.call Tryd.call10 rfl (known14_ok _ (ht.mem M)) rfl ?_
        rintro _ w ⟨rfl, m⟩
        replace M := M.call0 m; clear m
        refine WL.assign rfl rfl ?_
        refine WL.nil ?_
        refine WX.next ?_
        refine W.sub [(10, _)] (.cons rfl .nil) ?_
        refine W.ret ?_
        refine WX.ret1 rfl rfl ?_
        exact ⟨by simp, M.sel (.nil)⟩
theorem BeatPlays_ok {A : Option Addr} {cap : Nat} {sites : List Int} {A3 : Option Addr} {cap3 : Nat} {l : List Int} (me pat home : Int) (hp : -9223372036854775808 ≤ pat ∧ pat ≤ 9223372036854775807) (w0 : World) (ht : Tab w0) (h : RdL w0 intE A cap sites) (h3 : RdL w0 intE A3 cap3 l) :
    Fn Tryd.prog 3 [.slice A sites.length cap, .int .i64 me, .int .i64 pat, .slice A3 l.length cap3, .int .i64 home] w0 fun v w' => v = .bool true ∧ Mem w0 w' [] := by
  by_cases hb : badV sites me pat
  · exact BeatPlays_bad me pat home hp hb w0 ht h h3
  · exact BeatPlays_good me pat home hp hb w0 ht h h3
end Go.Proofs.YtmkhggfcgblefaaDoor
