/-
  Walks of the reference's view: Tick, Hear, New (seawallref14).
-/
import Derived.Test.YtmkhggfcgblefaaDoorBeatRef
namespace Go.Proofs.YtmkhggfcgblefaaDoor
open Go Go.RowKit Bin

theorem laterR_ok {r : Rv} {N : Int} (ok : r.Ok N) : (laterR r).Ok (N + 1) := by
  have hn := ok.now
  have hc := ok.changed
  exact ⟨ok.n, ok.len, ok.me, ok.pat, by show 0 ≤ r.now + 1 ∧ r.now + 1 ≤ N + 1; omega, fun j hj => by have := ok.heard j hj; show -1000 ≤ el r.heard j ∧ el r.heard j ≤ r.now + 1; omega, by show 0 ≤ r.changed ∧ r.changed ≤ r.now + 1; omega⟩
theorem heardR_ok {r : Rv} {N : Int} (ok : r.Ok N) {k : Nat} (hk : k < r.sites.length) : (heardR r k).Ok N := by
  have hn := ok.now
  have hc := ok.changed
  exact ⟨ok.n, by show (r.heard.set k r.now).length = _; rw [List.length_set]; exact ok.len, ok.me, ok.pat, ok.now, fun j hj => by
    have hj' : j < r.heard.length := by
      have h0 : j < (r.heard.set k r.now).length := hj
      rw [List.length_set] at h0
      exact h0
    have := ok.heard j hj'
    show -1000 ≤ el (r.heard.set k r.now) j ∧ el (r.heard.set k r.now) j ≤ r.now
    rw [el_set _ _ _ _ (by rw [ok.len]; exact hk)]
    split <;> omega, ok.changed⟩
theorem RTick_ok (a : BvA) (r : Rv) {N : Int} (ok : r.Ok N) (hN : N + 1 ≤ 1000000) (w0 w : World) (L : List Asr) (M : Mem w0 w (rvL a r ++ L)) :
    Fn Tryd.prog 14 [.pointer (some ⟨a.g, 0, none⟩)] w fun _ w' => Mem w0 w' (rvL a (tickR r) ++ L) := by
  have hnow := ok.now
  have okl := laterR_ok ok
  have hR : ∀ r : Rv, rvL a r ++ L = Asr.row a.g 52 [.slice a.As r.sites.length a.cs, .int .i64 (r.me : Int), .int .i64 r.pat, .int .i64 r.now, .slice a.Ac r.heard.length a.cc, .int .i64 r.changed] :: Asr.lst intE a.As a.cs r.sites :: Asr.lst intE a.Ac a.cc r.heard :: L := fun _ => rfl
  refine Fn.enter Tryd.func14 rfl Tryd.ntmps14 rfl ?_
  refine W.sub [(0, _)] (.cons rfl .nil) ?_
  refine W.seq ?_
  refine W.region ?_
  refine WL.move rfl rfl ?_
  refine WL.call Tryd.call20 rfl (RUp_ok a r ok (by omega) w0 w L M) rfl ?_
  rintro _ w ⟨rfl, M⟩
  rw [hR] at M
  refine WL.assign rfl rfl ?_
  refine WL.nil ?_
  refine WX.next ?_
  refine W.sub [(0, _), (2, _)] (.cons rfl (.cons rfl .nil)) ?_
  refine W.seq ?_
  refine W.region ?_
  refine WL.move rfl rfl ?_
  refine WL.nilCheck rfl rfl ?_
  refine WL.fieldR (off := 3) Tryd.underlying52 rfl rfl Tryd.sizeOf3 rfl rfl rfl ?_
  refine WL.loadR Tryd.isAgg3 rfl M (by first | ((repeat (first | with_reducible exact Has.here | with_reducible refine Has.there ?_)); done) | (repeat (first | exact Has.here | refine Has.there ?_))) rfl rfl ?_
  refine WL.add rfl rfl (by first | exact wI64 (by omega) | rfl) rfl ?_
  refine WL.nilCheck rfl rfl ?_
  refine WL.fieldR (off := 3) Tryd.underlying52 rfl rfl Tryd.sizeOf3 rfl rfl rfl ?_
  refine WL.storeR Tryd.sizeOf3 rfl rfl rfl M (by first | ((repeat (first | with_reducible exact Has.here | with_reducible refine Has.there ?_)); done) | (repeat (first | exact Has.here | refine Has.there ?_))) (by repeat (first | exact SetAt.zero | apply SetAt.succ)) (by first | ((repeat (first | with_reducible exact Upd.here | with_reducible apply Upd.there)); done) | (repeat (first | exact Upd.here | apply Upd.there))) ?_
  intro w M
  refine WL.nil ?_
  refine WX.next ?_
  refine W.sub [(0, _), (2, _)] (.cons rfl (.cons rfl .nil)) ?_
  refine W.seq ?_
  refine W.region ?_
  refine WL.move rfl rfl ?_
  refine WL.call Tryd.call20 rfl (RUp_ok a (laterR r) okl hN w0 w L M) rfl ?_
  rintro _ w ⟨rfl, M⟩
  rw [hR] at M
  refine WL.assign rfl rfl ?_
  refine WL.nil ?_
  refine WX.next ?_
  refine W.sub [(0, _), (2, _), (3, _)] (.cons rfl (.cons rfl (.cons rfl .nil))) ?_
  refine W.seq ?_
  refine W.region ?_
  refine WL.move rfl rfl ?_
  refine WL.move rfl rfl ?_
  refine WL.neI rfl rfl rfl ?_
  refine WL.nil ?_
  refine WX.next ?_
  refine W.sub [(0, _), (17, _)] (.cons rfl (.cons rfl .nil)) ?_
  refine W.ite rfl (fun c0 => ?_) (fun c0 => ?_)
  · refine W.region ?_
    refine WL.move rfl rfl ?_
    refine WL.move rfl rfl ?_
    refine WL.nilCheck rfl rfl ?_
    refine WL.fieldR (off := 3) Tryd.underlying52 rfl rfl Tryd.sizeOf3 rfl rfl rfl ?_
    refine WL.loadR Tryd.isAgg3 rfl M (by first | ((repeat (first | with_reducible exact Has.here | with_reducible refine Has.there ?_)); done) | (repeat (first | exact Has.here | refine Has.there ?_))) rfl rfl ?_
    refine WL.nilCheck rfl rfl ?_
    refine WL.fieldR (off := 5) Tryd.underlying52 rfl rfl Tryd.sizeOf3 rfl rfl rfl ?_
    refine WL.storeR Tryd.sizeOf3 rfl rfl rfl M (by first | ((repeat (first | with_reducible exact Has.here | with_reducible refine Has.there ?_)); done) | (repeat (first | exact Has.here | refine Has.there ?_))) (by repeat (first | exact SetAt.zero | apply SetAt.succ)) (by first | ((repeat (first | with_reducible exact Upd.here | with_reducible apply Upd.there)); done) | (repeat (first | exact Upd.here | apply Upd.there))) ?_
    intro w M
    refine WL.nil ?_
    refine WX.end0 rfl ?_
    unfold tickR
    rw [if_pos (fun e => c0 (by rw [e]))]
    exact M
  · refine W.skip ?_
    refine WX.end0 rfl ?_
    unfold tickR
    rw [if_neg (fun e => e (by omega))]
    exact M
theorem RHear_ok (a : BvA) (r : Rv) {N : Int} (ok : r.Ok N) (hN : N ≤ 1000000) (z : Int) (w0 w : World) (L : List Asr) (M : Mem w0 w (rvL a r ++ L)) :
    Fn Tryd.prog 16 [.pointer (some ⟨a.g, 0, none⟩), .int .i64 z] w fun v w' => v = .int .i64 (hearE (toBv r) z) ∧ Mem w0 w' (rvL a (hearRZ r z) ++ L) := by
  have hnow := ok.now
  have hlen := ok.len
  have hts : (toBv r).sites = r.sites := rfl
  have hR : ∀ r : Rv, rvL a r ++ L = Asr.row a.g 52 [.slice a.As r.sites.length a.cs, .int .i64 (r.me : Int), .int .i64 r.pat, .int .i64 r.now, .slice a.Ac r.heard.length a.cc, .int .i64 r.changed] :: Asr.lst intE a.As a.cs r.sites :: Asr.lst intE a.Ac a.cc r.heard :: L := fun _ => rfl
  unfold hearE hearRZ
  rw [hts]
  rw [hR] at M
  refine Fn.enter Tryd.func16 rfl Tryd.ntmps16 rfl ?_
  refine W.sub [(0, _), (1, _)] (.cons rfl (.cons rfl .nil)) ?_
  refine W.seq ?_
  refine W.region ?_
  refine WL.assign rfl rfl ?_
  refine WL.nil ?_
  refine WX.next ?_
  refine W.sub [(0, _), (1, _)] (.cons rfl (.cons rfl .nil)) ?_
  refine W.seq ?_
  refine W.seq ?_
  refine W.region ?_
  refine WL.move rfl rfl ?_
  refine WL.lss rfl rfl rfl ?_
  refine WL.moveIf rfl rfl (fun c0 => ?_) (fun c0 => ?_)
  · refine WL.off rfl rfl rfl rfl ?_
    refine WL.off rfl rfl rfl rfl ?_
    refine WL.off rfl rfl rfl rfl ?_
    refine WL.off rfl rfl rfl rfl ?_
    refine WL.off rfl rfl rfl rfl ?_
    refine WL.off rfl rfl rfl rfl ?_
    refine WL.off rfl rfl rfl rfl ?_
    refine WL.pickT rfl rfl rfl ?_
    refine WL.nil ?_
    refine WX.next ?_
    refine W.sub [(0, _), (1, _), (17, _)] (.cons rfl (.cons rfl (.cons rfl .nil))) ?_
    refine W.condT rfl ?_
    refine W.seq ?_
    refine W.region ?_
    refine WL.assign rfl rfl ?_
    refine WL.nil ?_
    refine WX.next ?_
    refine W.sub [(4, _)] (.cons rfl .nil) ?_
    refine W.ret ?_
    refine WX.thenRet ?_
    refine WX.ret1 rfl rfl ?_
    exact ⟨by rw [if_neg (by omega)], by rw [if_neg (by omega)]; exact M⟩
  · refine WL.on rfl rfl ?_
    refine WL.move rfl rfl ?_
    refine WL.on rfl rfl ?_
    refine WL.move rfl rfl ?_
    refine WL.on rfl rfl ?_
    refine WL.nilCheck rfl rfl ?_
    refine WL.on rfl rfl ?_
    refine WL.fieldR (off := 0) Tryd.underlying52 rfl rfl Tryd.sizeOf22 rfl rfl rfl ?_
    refine WL.on rfl rfl ?_
    refine WL.loadR Tryd.isAgg22 rfl M (by first | ((repeat (first | with_reducible exact Has.here | with_reducible refine Has.there ?_)); done) | (repeat (first | exact Has.here | refine Has.there ?_))) rfl rfl ?_
    refine WL.on rfl rfl ?_
    refine WL.len Tryd.underlying22 rfl rfl ?_
    refine WL.on rfl rfl ?_
    refine WL.geq rfl rfl rfl ?_
    refine WL.pickF rfl rfl rfl ?_
    refine WL.nil ?_
    refine WX.next ?_
    refine W.sub [(0, _), (1, _), (17, _)] (.cons rfl (.cons rfl (.cons rfl .nil))) ?_
    refine W.ite rfl (fun c1 => ?_) (fun c1 => ?_)
    · refine W.seq ?_
      refine W.region ?_
      refine WL.assign rfl rfl ?_
      refine WL.nil ?_
      refine WX.next ?_
      refine W.sub [(4, _)] (.cons rfl .nil) ?_
      refine W.ret ?_
      refine WX.thenRet ?_
      refine WX.ret1 rfl rfl ?_
      exact ⟨by rw [if_neg (by omega)], by rw [if_neg (by omega)]; exact M⟩
    · obtain ⟨k, hk⟩ : ∃ k : Nat, z = (k : Int) := ⟨z.toNat, by omega⟩
      subst hk
      have hkl : k < r.sites.length := by omega
      have okh := heardR_ok ok hkl
      rw [if_pos (by omega), if_pos (by omega), Int.toNat_natCast]
      refine W.skip ?_
      refine WX.next ?_
      refine W.seq ?_
      refine W.region ?_
      refine WL.move rfl rfl ?_
      refine WL.call Tryd.call20 rfl (RUp_ok a r ok hN w0 w L M) rfl ?_
      rintro _ w ⟨rfl, M⟩
      rw [hR] at M
      refine WL.assign rfl rfl ?_
      refine WL.nil ?_
      refine WX.next ?_
      refine W.sub [(0, _), (1, _), (5, _)] (.cons rfl (.cons rfl (.cons rfl .nil))) ?_
      refine W.seq ?_
      refine W.drawM (_) (by kernel_rfl) (fun j => [3, 8].contains j) M Sel.refl ?_
      clear M; intro M
      apply DG.pure_ [0, 1, 2, 4, 5, 6, 7] 4 rfl (by kernel_rfl) (by kernel_rfl)
      · intro w
        refine WL.move rfl rfl ?_
        refine WL.nilCheck rfl rfl ?_
        refine WL.fieldR (off := 4) Tryd.underlying52 rfl rfl Tryd.sizeOf22 rfl rfl rfl ?_
        refine WL.move rfl rfl ?_
        refine WL.move rfl rfl ?_
        refine WL.nilCheck rfl rfl ?_
        refine WL.fieldR (off := 3) Tryd.underlying52 rfl rfl Tryd.sizeOf3 rfl rfl rfl ?_
        exact Chain.end_ rfl
      apply DG.take [3, 8, 9] 1 rfl (by kernel_rfl) (by kernel_rfl) (M.sel (by first | ((repeat (first | with_reducible exact Sel.refl | with_reducible exact Sel.nil | with_reducible exact Del.here | with_reducible apply Del.there | with_reducible apply Sel.cons | with_reducible apply Sel.drop)); done) | (repeat (first | exact Sel.refl | exact Sel.nil | exact Del.here | apply Del.there | apply Sel.cons | apply Sel.drop))))
      · intro w M
        refine WL.loadR Tryd.isAgg22 rfl M (by first | ((repeat (first | with_reducible exact Has.here | with_reducible refine Has.there ?_)); done) | (repeat (first | exact Has.here | refine Has.there ?_))) rfl rfl ?_
        refine WL.loadR Tryd.isAgg3 rfl M (by first | ((repeat (first | with_reducible exact Has.here | with_reducible refine Has.there ?_)); done) | (repeat (first | exact Has.here | refine Has.there ?_))) rfl rfl ?_
        refine WL.idxA Tryd.underlying22 Tryd.sizeOf3 rfl rfl (RdL.isSome (E := intE) (by first | with_reducible assumption | with_reducible exact RdL.mem (by with_reducible assumption) M | exact M.rdL (by first | ((repeat (first | with_reducible exact Has.here | with_reducible refine Has.there ?_)); done) | (repeat (first | exact Has.here | refine Has.there ?_))) | exact RdLH.at (by assumption) (M.sel (by first | ((repeat (first | with_reducible exact Sel.refl | with_reducible exact Sel.nil | with_reducible exact Del.here | with_reducible apply Del.there | with_reducible apply Sel.cons | with_reducible apply Sel.drop)); done) | (repeat (first | exact Sel.refl | exact Sel.nil | exact Del.here | apply Del.there | apply Sel.cons | apply Sel.drop)))) | exact RdL.nil _ _ _) (by omega)) (by omega) (by omega) (by first | exact rfl | exact (Int.toNat_of_nonneg (by omega)).symm) rfl ?_
        exact Chain.end_ rfl
      refine DG.step 10 0 rfl (by kernel_rfl) ?_
      refine WL.storeE0 (E := intE) (x' := r.now) Tryd.sizeOf3 rfl rfl rfl M (by first | ((repeat (first | with_reducible exact Has.here | with_reducible refine Has.there ?_)); done) | (repeat (first | exact Has.here | refine Has.there ?_))) (by omega) (by repeat (first | exact SetAt.zero | apply SetAt.succ)) (by first | ((repeat (first | with_reducible exact Upd.here | with_reducible apply Upd.there)); done) | (repeat (first | exact Upd.here | apply Upd.there))) ?_
      intro w M
      refine DG.go (G := fun j => [3, 8].contains j) (i := 10) (f' := 0) (done := [0, 1, 2, 4, 5, 6, 7, 3, 8, 9]) (fun h => by cases h) ?_
      refine DG.end_ (by kernel_rfl) ?_
      refine WX.next ?_
      refine W.sub [(0, _), (5, _)] (.cons rfl (.cons rfl .nil)) ?_
      refine W.seq ?_
      refine W.region ?_
      refine WL.move rfl rfl ?_
      refine WL.call Tryd.call20 rfl (RUp_ok a (heardR r k) okh hN w0 w L (by rw [hR]; show Mem w0 _ (Asr.row a.g 52 [_, _, _, _, .slice a.Ac (r.heard.set k r.now).length a.cc, _] :: Asr.lst intE a.As a.cs r.sites :: Asr.lst intE a.Ac a.cc (r.heard.set k r.now) :: L); rw [List.length_set]; exact M.sel (by first | ((repeat (first | with_reducible exact Sel.refl | with_reducible exact Sel.nil | with_reducible exact Del.here | with_reducible apply Del.there | with_reducible apply Sel.cons | with_reducible apply Sel.drop)); done) | (repeat (first | exact Sel.refl | exact Sel.nil | exact Del.here | apply Del.there | apply Sel.cons | apply Sel.drop))))) rfl ?_
      rintro _ w ⟨rfl, M⟩
      rw [hR] at M
      refine WL.assign rfl rfl ?_
      refine WL.nil ?_
      refine WX.next ?_
      refine W.sub [(0, _), (5, _), (6, _)] (.cons rfl (.cons rfl (.cons rfl .nil))) ?_
      refine W.seq ?_
      refine W.seq ?_
      refine W.region ?_
      refine WL.move rfl rfl ?_
      refine WL.move rfl rfl ?_
      refine WL.neI rfl rfl rfl ?_
      refine WL.nil ?_
      refine WX.next ?_
      refine W.sub [(0, _), (34, _)] (.cons rfl (.cons rfl .nil)) ?_
      refine W.ite rfl (fun c2 => ?_) (fun c2 => ?_)
      · refine W.region ?_
        refine WL.move rfl rfl ?_
        refine WL.move rfl rfl ?_
        refine WL.nilCheck rfl rfl ?_
        refine WL.fieldR (off := 3) Tryd.underlying52 rfl rfl Tryd.sizeOf3 rfl rfl rfl ?_
        refine WL.loadR Tryd.isAgg3 rfl M (by first | ((repeat (first | with_reducible exact Has.here | with_reducible refine Has.there ?_)); done) | (repeat (first | exact Has.here | refine Has.there ?_))) rfl rfl ?_
        refine WL.nilCheck rfl rfl ?_
        refine WL.fieldR (off := 5) Tryd.underlying52 rfl rfl Tryd.sizeOf3 rfl rfl rfl ?_
        refine WL.storeR Tryd.sizeOf3 rfl rfl rfl M (by first | ((repeat (first | with_reducible exact Has.here | with_reducible refine Has.there ?_)); done) | (repeat (first | exact Has.here | refine Has.there ?_))) (by repeat (first | exact SetAt.zero | apply SetAt.succ)) (by first | ((repeat (first | with_reducible exact Upd.here | with_reducible apply Upd.there)); done) | (repeat (first | exact Upd.here | apply Upd.there))) ?_
        intro w M
        refine WL.nil ?_
        refine WX.next ?_
        refine W.sub [] .nil ?_
        refine W.seq ?_
        refine W.region ?_
        refine WL.assign rfl rfl ?_
        refine WL.nil ?_
        refine WX.next ?_
        refine W.sub [(4, _)] (.cons rfl .nil) ?_
        refine W.ret ?_
        refine WX.ret1 rfl rfl ?_
        unfold hearR
        rw [if_pos (fun e => c2 (by rw [e]))]
        first | exact ⟨rfl, M⟩ | exact M
      · refine W.skip ?_
        refine WX.next ?_
        refine W.seq ?_
        refine W.region ?_
        refine WL.assign rfl rfl ?_
        refine WL.nil ?_
        refine WX.next ?_
        refine W.sub [(4, _)] (.cons rfl .nil) ?_
        refine W.ret ?_
        refine WX.ret1 rfl rfl ?_
        unfold hearR
        rw [if_neg (fun e => e (by omega))]
        first | exact ⟨rfl, M⟩ | exact M
theorem RNew_ok {A : Option Addr} {cap : Nat} {l : List Int} (me pat : Int) {w0 : World} (h : RdL w0 intE A cap l) (hl : l.length ≤ 1000000) (hp : -9223372036854775808 ≤ pat ∧ pat ≤ 9223372036854775807) :
    Fn Tryd.prog 12 [.slice A l.length cap, .int .i64 me, .int .i64 pat] w0 fun v w' => (badV l me pat ∧ v = .tuple #[.pointer none, .int .i64 2] ∧ Mem w0 w' []) ∨
      (¬ badV l me pat ∧ ∃ a : BvA, v = .tuple #[.pointer (some ⟨a.g, 0, none⟩), .int .i64 0] ∧ Mem w0 w' (rvL a (newR l me.toNat pat))) := by
  have M := Mem.refl w0
  obtain ⟨w, hw⟩ : ∃ w, w = w0 := ⟨w0, rfl⟩
  refine Fn.enter Tryd.func12 rfl Tryd.ntmps12 rfl ?_
  refine W.sub [(0, _), (1, _), (2, _)] (.cons rfl (.cons rfl (.cons rfl .nil))) ?_
  refine W.seq ?_
  refine W.region ?_
  refine WL.assign rfl rfl ?_
  refine WL.assign rfl rfl ?_
  refine WL.nil ?_
  refine WX.next ?_
  refine W.sub [(0, _), (1, _), (2, _)] (.cons rfl (.cons rfl (.cons rfl .nil))) ?_
  refine W.seq ?_
  refine W.seq ?_
  refine W.region ?_
  refine WL.move rfl rfl ?_
  refine WL.len Tryd.underlying22 rfl rfl ?_
  refine WL.lss rfl rfl rfl ?_
  refine WL.moveIf rfl rfl (fun c0 => ?_) (fun c0 => ?_)
  · refine WL.off rfl rfl rfl rfl ?_
    refine WL.off rfl rfl rfl rfl ?_
    refine WL.off rfl rfl rfl rfl ?_
    refine WL.pickT rfl rfl rfl ?_
    refine WL.move rfl rfl ?_
    refine WL.off rfl rfl rfl rfl ?_
    refine WL.off rfl rfl rfl rfl ?_
    refine WL.pickT rfl rfl rfl ?_
    refine WL.move rfl rfl ?_
    refine WL.off rfl rfl rfl rfl ?_
    refine WL.off rfl rfl rfl rfl ?_
    refine WL.off rfl rfl rfl rfl ?_
    refine WL.off rfl rfl rfl rfl ?_
    refine WL.pickT rfl rfl rfl ?_
    refine WL.move rfl rfl ?_
    refine WL.off rfl rfl rfl rfl ?_
    refine WL.off rfl rfl rfl rfl ?_
    refine WL.pickT rfl rfl rfl ?_
    refine WL.move rfl rfl ?_
    refine WL.off rfl rfl rfl rfl ?_
    refine WL.off rfl rfl rfl rfl ?_
    refine WL.pickT rfl rfl rfl ?_
    refine WL.nil ?_
    refine WX.next ?_
    refine W.sub [(0, _), (1, _), (2, _), (35, _)] (.cons rfl (.cons rfl (.cons rfl (.cons rfl .nil)))) ?_
    refine W.condT rfl ?_
    refine W.seq ?_
    refine W.region ?_
    refine WL.assign rfl rfl ?_
    refine WL.assign rfl rfl ?_
    refine WL.nil ?_
    refine WX.next ?_
    refine W.sub [(6, _), (7, _)] (.cons rfl (.cons rfl .nil)) ?_
    refine W.ret ?_
    refine WX.thenRet ?_
    refine WX.ret2 rfl rfl rfl ?_
    exact .inl ⟨by unfold badV; omega, rfl, M.sel (by first | ((repeat (first | with_reducible exact Sel.refl | with_reducible exact Sel.nil | with_reducible exact Del.here | with_reducible apply Del.there | with_reducible apply Sel.cons | with_reducible apply Sel.drop)); done) | (repeat (first | exact Sel.refl | exact Sel.nil | exact Del.here | apply Del.there | apply Sel.cons | apply Sel.drop)))⟩
  · refine WL.on rfl rfl ?_
    refine WL.move rfl rfl ?_
    refine WL.on rfl rfl ?_
    refine WL.len Tryd.underlying22 rfl rfl ?_
    refine WL.on rfl rfl ?_
    refine WL.gtr rfl rfl rfl ?_
    refine WL.pickF rfl rfl rfl ?_
    refine WL.moveIf rfl rfl (fun c1 => ?_) (fun c1 => ?_)
    · refine WL.off rfl rfl rfl rfl ?_
      refine WL.off rfl rfl rfl rfl ?_
      refine WL.pickT rfl rfl rfl ?_
      refine WL.move rfl rfl ?_
      refine WL.off rfl rfl rfl rfl ?_
      refine WL.off rfl rfl rfl rfl ?_
      refine WL.off rfl rfl rfl rfl ?_
      refine WL.off rfl rfl rfl rfl ?_
      refine WL.pickT rfl rfl rfl ?_
      refine WL.move rfl rfl ?_
      refine WL.off rfl rfl rfl rfl ?_
      refine WL.off rfl rfl rfl rfl ?_
      refine WL.pickT rfl rfl rfl ?_
      refine WL.move rfl rfl ?_
      refine WL.off rfl rfl rfl rfl ?_
      refine WL.off rfl rfl rfl rfl ?_
      refine WL.pickT rfl rfl rfl ?_
      refine WL.nil ?_
      refine WX.next ?_
      refine W.sub [(0, _), (1, _), (2, _), (35, _)] (.cons rfl (.cons rfl (.cons rfl (.cons rfl .nil)))) ?_
      refine W.condT rfl ?_
      refine W.seq ?_
      refine W.region ?_
      refine WL.assign rfl rfl ?_
      refine WL.assign rfl rfl ?_
      refine WL.nil ?_
      refine WX.next ?_
      refine W.sub [(6, _), (7, _)] (.cons rfl (.cons rfl .nil)) ?_
      refine W.ret ?_
      refine WX.thenRet ?_
      refine WX.ret2 rfl rfl rfl ?_
      exact .inl ⟨by unfold badV; omega, rfl, M.sel (by first | ((repeat (first | with_reducible exact Sel.refl | with_reducible exact Sel.nil | with_reducible exact Del.here | with_reducible apply Del.there | with_reducible apply Sel.cons | with_reducible apply Sel.drop)); done) | (repeat (first | exact Sel.refl | exact Sel.nil | exact Del.here | apply Del.there | apply Sel.cons | apply Sel.drop)))⟩
    · refine WL.on rfl rfl ?_
      refine WL.move rfl rfl ?_
      refine WL.on rfl rfl ?_
      refine WL.lss rfl rfl rfl ?_
      refine WL.pickF rfl rfl rfl ?_
      refine WL.moveIf rfl rfl (fun c2 => ?_) (fun c2 => ?_)
      · refine WL.off rfl rfl rfl rfl ?_
        refine WL.off rfl rfl rfl rfl ?_
        refine WL.off rfl rfl rfl rfl ?_
        refine WL.off rfl rfl rfl rfl ?_
        refine WL.pickT rfl rfl rfl ?_
        refine WL.move rfl rfl ?_
        refine WL.off rfl rfl rfl rfl ?_
        refine WL.off rfl rfl rfl rfl ?_
        refine WL.pickT rfl rfl rfl ?_
        refine WL.move rfl rfl ?_
        refine WL.off rfl rfl rfl rfl ?_
        refine WL.off rfl rfl rfl rfl ?_
        refine WL.pickT rfl rfl rfl ?_
        refine WL.nil ?_
        refine WX.next ?_
        refine W.sub [(0, _), (1, _), (2, _), (35, _)] (.cons rfl (.cons rfl (.cons rfl (.cons rfl .nil)))) ?_
        refine W.condT rfl ?_
        refine W.seq ?_
        refine W.region ?_
        refine WL.assign rfl rfl ?_
        refine WL.assign rfl rfl ?_
        refine WL.nil ?_
        refine WX.next ?_
        refine W.sub [(6, _), (7, _)] (.cons rfl (.cons rfl .nil)) ?_
        refine W.ret ?_
        refine WX.thenRet ?_
        refine WX.ret2 rfl rfl rfl ?_
        exact .inl ⟨by unfold badV; omega, rfl, M.sel (by first | ((repeat (first | with_reducible exact Sel.refl | with_reducible exact Sel.nil | with_reducible exact Del.here | with_reducible apply Del.there | with_reducible apply Sel.cons | with_reducible apply Sel.drop)); done) | (repeat (first | exact Sel.refl | exact Sel.nil | exact Del.here | apply Del.there | apply Sel.cons | apply Sel.drop)))⟩
      · refine WL.on rfl rfl ?_
        refine WL.move rfl rfl ?_
        refine WL.on rfl rfl ?_
        refine WL.move rfl rfl ?_
        refine WL.on rfl rfl ?_
        refine WL.len Tryd.underlying22 rfl rfl ?_
        refine WL.on rfl rfl ?_
        refine WL.geq rfl rfl rfl ?_
        refine WL.pickF rfl rfl rfl ?_
        refine WL.moveIf rfl rfl (fun c3 => ?_) (fun c3 => ?_)
        · refine WL.off rfl rfl rfl rfl ?_
          refine WL.off rfl rfl rfl rfl ?_
          refine WL.pickT rfl rfl rfl ?_
          refine WL.move rfl rfl ?_
          refine WL.off rfl rfl rfl rfl ?_
          refine WL.off rfl rfl rfl rfl ?_
          refine WL.pickT rfl rfl rfl ?_
          refine WL.nil ?_
          refine WX.next ?_
          refine W.sub [(0, _), (1, _), (2, _), (35, _)] (.cons rfl (.cons rfl (.cons rfl (.cons rfl .nil)))) ?_
          refine W.condT rfl ?_
          refine W.seq ?_
          refine W.region ?_
          refine WL.assign rfl rfl ?_
          refine WL.assign rfl rfl ?_
          refine WL.nil ?_
          refine WX.next ?_
          refine W.sub [(6, _), (7, _)] (.cons rfl (.cons rfl .nil)) ?_
          refine W.ret ?_
          refine WX.thenRet ?_
          refine WX.ret2 rfl rfl rfl ?_
          exact .inl ⟨by unfold badV; omega, rfl, M.sel (by first | ((repeat (first | with_reducible exact Sel.refl | with_reducible exact Sel.nil | with_reducible exact Del.here | with_reducible apply Del.there | with_reducible apply Sel.cons | with_reducible apply Sel.drop)); done) | (repeat (first | exact Sel.refl | exact Sel.nil | exact Del.here | apply Del.there | apply Sel.cons | apply Sel.drop)))⟩
        · refine WL.on rfl rfl ?_
          refine WL.move rfl rfl ?_
          refine WL.on rfl rfl ?_
          refine WL.lss rfl rfl rfl ?_
          refine WL.pickF rfl rfl rfl ?_
          refine WL.moveIf rfl rfl (fun c4 => ?_) (fun c4 => ?_)
          · refine WL.off rfl rfl rfl rfl ?_
            refine WL.off rfl rfl rfl rfl ?_
            refine WL.pickT rfl rfl rfl ?_
            refine WL.nil ?_
            refine WX.next ?_
            refine W.sub [(0, _), (1, _), (2, _), (35, _)] (.cons rfl (.cons rfl (.cons rfl (.cons rfl .nil)))) ?_
            refine W.condT rfl ?_
            refine W.seq ?_
            refine W.region ?_
            refine WL.assign rfl rfl ?_
            refine WL.assign rfl rfl ?_
            refine WL.nil ?_
            refine WX.next ?_
            refine W.sub [(6, _), (7, _)] (.cons rfl (.cons rfl .nil)) ?_
            refine W.ret ?_
            refine WX.thenRet ?_
            refine WX.ret2 rfl rfl rfl ?_
            exact .inl ⟨by unfold badV; omega, rfl, M.sel (by first | ((repeat (first | with_reducible exact Sel.refl | with_reducible exact Sel.nil | with_reducible exact Del.here | with_reducible apply Del.there | with_reducible apply Sel.cons | with_reducible apply Sel.drop)); done) | (repeat (first | exact Sel.refl | exact Sel.nil | exact Del.here | apply Del.there | apply Sel.cons | apply Sel.drop)))⟩
          · refine WL.on rfl rfl ?_
            refine WL.move rfl rfl ?_
            refine WL.on rfl rfl ?_
            refine WL.gtr rfl rfl rfl ?_
            refine WL.pickF rfl rfl rfl ?_
            refine WL.nil ?_
            refine WX.next ?_
            refine W.sub [(0, _), (1, _), (2, _), (35, _)] (.cons rfl (.cons rfl (.cons rfl (.cons rfl .nil)))) ?_
            refine W.ite rfl (fun c5 => ?_) (fun c5 => ?_)
            · refine W.seq ?_
              refine W.region ?_
              refine WL.assign rfl rfl ?_
              refine WL.assign rfl rfl ?_
              refine WL.nil ?_
              refine WX.next ?_
              refine W.sub [(6, _), (7, _)] (.cons rfl (.cons rfl .nil)) ?_
              refine W.ret ?_
              refine WX.thenRet ?_
              refine WX.ret2 rfl rfl rfl ?_
              exact .inl ⟨by unfold badV; omega, rfl, M.sel (by first | ((repeat (first | with_reducible exact Sel.refl | with_reducible exact Sel.nil | with_reducible exact Del.here | with_reducible apply Del.there | with_reducible apply Sel.cons | with_reducible apply Sel.drop)); done) | (repeat (first | exact Sel.refl | exact Sel.nil | exact Del.here | apply Del.there | apply Sel.cons | apply Sel.drop)))⟩
            · refine W.skip ?_
              refine WX.next ?_
              refine W.seq ?_
              obtain ⟨km, hkm⟩ : ∃ k : Nat, me = (k : Int) := ⟨me.toNat, by omega⟩
              subst hkm
              refine W.region ?_
              refine WL.move rfl rfl ?_
              refine WL.move rfl rfl ?_
              refine WL.buildP (places := #[(0, 1), (1, 1), (2, 1), (3, 1), (4, 1), (5, 1)]) Tryd.underlying52 Tryd.zeroValue52 (fun _ => by simp [Tryd.sizeOf22, Tryd.sizeOf3, Tryd.sizeOf3, Tryd.sizeOf3, Tryd.sizeOf22, Tryd.sizeOf3]) rfl (by repeat (first | exact Puts.nil | exact SetAt.zero | apply SetAt.succ | apply Puts.cons rfl rfl)) rfl ?_
              refine WL.box rfl M rfl ?_
              intro g3_3 w M
              try simp only [Value.cells] at M
              try simp only [List.toList_toArray] at M
              refine WL.assign rfl rfl ?_
              refine WL.nil ?_
              refine WX.next ?_
              refine W.sub [(0, _), (2, _), (8, _)] (.cons rfl (.cons rfl (.cons rfl .nil))) ?_
              refine W.seq ?_
              refine W.seq ?_
              have M2 : Mem w0 w (Asr.lst intE none 0 [] :: _) := M.nilOwn 3 1
              have M3 : Mem w0 w (Asr.lst intE none 0 [] :: _) := M2.nilOwn 3 1
              replace M := M3
              refine W.region ?_
              refine WL.assign rfl rfl ?_
              refine WL.nil ?_
              refine WX.next ?_
              refine W.sub [(0, _), (2, _), (8, _), (9, _)] (.cons rfl (.cons rfl (.cons rfl (.cons rfl .nil)))) ?_
              refine W.block ?_
              refine W.loop (ι := Nat × (Option Addr × Nat) × (Option Addr × Nat)) (fun z => [(0, .slice A l.length cap), (2, .int .i64 pat), (8, .pointer (some ⟨g3_3, 0, none⟩)), (9, .int .i64 (z.1 : Int))]) (fun zz w => Mem w0 w ((fun z => [Asr.row g3_3 52 [.slice z.2.1.1 (l.take z.1).length z.2.1.2, .int .i64 (km : Int), .int .i64 pat, .int .i64 0, .slice z.2.2.1 (List.replicate z.1 (-pat)).length z.2.2.2, .int .i64 0], Asr.lst intE z.2.1.1 z.2.1.2 (l.take z.1), Asr.lst intE z.2.2.1 z.2.2.2 (List.replicate z.1 (-pat))]) zz) ∧ (fun z => z.1 ≤ l.length ∧ ∀ k, k < z.1 → 0 ≤ el l k ∧ el l k < 12) zz) (fun z => l.length - z.1) ((0, (none, 0), (none, 0))) (by (repeat' (first | exact envSub.nil | refine envSub.cons ?_ ?_)) <;> first | rfl | (refine congrArg some ?_; refine congrArg (Value.int _) ?_; first | omega | (dsimp only; omega)) | (simp; done) | (refine congrArg some ?_; dsimp only; congr 1; omega) | (simp; omega)) ⟨M.sel (by first | ((repeat (first | with_reducible exact Sel.refl | with_reducible exact Sel.nil | with_reducible exact Del.here | with_reducible apply Del.there | with_reducible apply Sel.cons | with_reducible apply Sel.drop)); done) | (repeat (first | exact Sel.refl | exact Sel.nil | exact Del.here | apply Del.there | apply Sel.cons | apply Sel.drop))), ⟨Nat.zero_le _, fun k hk => absurd hk (Nat.not_lt_zero _)⟩⟩ ?_
              clear M; rintro (⟨i, ⟨B, cB⟩, ⟨C, cC⟩⟩) w ⟨M, ⟨hi, hs⟩⟩; dsimp only at M hi hs ⊢
              refine W.sub [(0, _), (2, _), (8, _), (9, _)] (.cons rfl (.cons rfl (.cons rfl (.cons rfl .nil)))) ?_
              refine W.seq ?_
              refine W.seq ?_
              refine W.region ?_
              refine WL.move rfl rfl ?_
              refine WL.move rfl rfl ?_
              refine WL.len Tryd.underlying22 rfl rfl ?_
              refine WL.lss rfl rfl rfl ?_
              refine WL.nil ?_
              refine WX.next ?_
              refine W.sub [(0, _), (2, _), (8, _), (9, _), (43, _)] (.cons rfl (.cons rfl (.cons rfl (.cons rfl (.cons rfl .nil))))) ?_
              refine W.ite rfl (fun c6 => ?_) (fun c6 => ?_)
              · refine W.skip ?_
                refine WX.next ?_
                refine W.seq ?_
                refine W.block ?_
                refine W.seq ?_
                refine W.seq ?_
                refine W.region ?_
                refine WL.move rfl rfl ?_
                refine WL.move rfl rfl ?_
                refine WL.idxA Tryd.underlying22 Tryd.sizeOf3 rfl rfl (RdL.isSome (E := intE) (by first | with_reducible assumption | with_reducible exact RdL.mem (by with_reducible assumption) M | exact M.rdL (by first | ((repeat (first | with_reducible exact Has.here | with_reducible refine Has.there ?_)); done) | (repeat (first | exact Has.here | refine Has.there ?_))) | exact RdLH.at (by assumption) (M.sel (by first | ((repeat (first | with_reducible exact Sel.refl | with_reducible exact Sel.nil | with_reducible exact Del.here | with_reducible apply Del.there | with_reducible apply Sel.cons | with_reducible apply Sel.drop)); done) | (repeat (first | exact Sel.refl | exact Sel.nil | exact Del.here | apply Del.there | apply Sel.cons | apply Sel.drop)))) | exact RdL.nil _ _ _) (by omega)) (by omega) (by omega) (by first | exact rfl | exact (Int.toNat_of_nonneg (by omega)).symm) rfl ?_
                refine WL.loadE0 (E := intE) Tryd.isAgg3 rfl (by first | with_reducible assumption | with_reducible exact RdL.mem (by with_reducible assumption) M | exact M.rdL (by first | ((repeat (first | with_reducible exact Has.here | with_reducible refine Has.there ?_)); done) | (repeat (first | exact Has.here | refine Has.there ?_))) | exact RdLH.at (by assumption) (M.sel (by first | ((repeat (first | with_reducible exact Sel.refl | with_reducible exact Sel.nil | with_reducible exact Del.here | with_reducible apply Del.there | with_reducible apply Sel.cons | with_reducible apply Sel.drop)); done) | (repeat (first | exact Sel.refl | exact Sel.nil | exact Del.here | apply Del.there | apply Sel.cons | apply Sel.drop)))) | exact RdL.nil _ _ _) (by omega) rfl rfl ?_
                refine WL.lss rfl rfl rfl ?_
                refine WL.moveIf rfl rfl (fun c7 => ?_) (fun c7 => ?_)
                · refine WL.off rfl rfl rfl rfl ?_
                  refine WL.off rfl rfl rfl rfl ?_
                  refine WL.off rfl rfl rfl rfl ?_
                  refine WL.off rfl rfl rfl rfl ?_
                  refine WL.off rfl rfl rfl rfl ?_
                  refine WL.pickT rfl rfl rfl ?_
                  refine WL.nil ?_
                  refine WX.next ?_
                  refine W.sub [(0, _), (2, _), (8, _), (9, _), (57, _)] (.cons rfl (.cons rfl (.cons rfl (.cons rfl (.cons rfl .nil))))) ?_
                  refine W.condT rfl ?_
                  refine W.seq ?_
                  refine W.region ?_
                  refine WL.assign rfl rfl ?_
                  refine WL.assign rfl rfl ?_
                  refine WL.nil ?_
                  refine WX.next ?_
                  refine W.sub [(6, _), (7, _)] (.cons rfl (.cons rfl .nil)) ?_
                  refine W.ret ?_
                  refine WX.thenRet ?_
                  refine WX.blockRet ?_
                  refine WX.thenRet ?_
                  refine WX.thenRet ?_
                  refine WX.blockRet ?_
                  refine WX.thenRet ?_
                  refine WX.ret2 rfl rfl rfl ?_
                  exact .inl ⟨.inl (List.any_eq_true.2 ⟨_, el_mem (l := l) (k := i) (by omega), decide_eq_true (by omega)⟩), rfl, M.sel (by first | ((repeat (first | with_reducible exact Sel.refl | with_reducible exact Sel.nil | with_reducible exact Del.here | with_reducible apply Del.there | with_reducible apply Sel.cons | with_reducible apply Sel.drop)); done) | (repeat (first | exact Sel.refl | exact Sel.nil | exact Del.here | apply Del.there | apply Sel.cons | apply Sel.drop)))⟩
                · refine WL.on rfl rfl ?_
                  refine WL.move rfl rfl ?_
                  refine WL.on rfl rfl ?_
                  refine WL.move rfl rfl ?_
                  refine WL.on rfl rfl ?_
                  refine WL.idxA Tryd.underlying22 Tryd.sizeOf3 rfl rfl (RdL.isSome (E := intE) (by first | with_reducible assumption | with_reducible exact RdL.mem (by with_reducible assumption) M | exact M.rdL (by first | ((repeat (first | with_reducible exact Has.here | with_reducible refine Has.there ?_)); done) | (repeat (first | exact Has.here | refine Has.there ?_))) | exact RdLH.at (by assumption) (M.sel (by first | ((repeat (first | with_reducible exact Sel.refl | with_reducible exact Sel.nil | with_reducible exact Del.here | with_reducible apply Del.there | with_reducible apply Sel.cons | with_reducible apply Sel.drop)); done) | (repeat (first | exact Sel.refl | exact Sel.nil | exact Del.here | apply Del.there | apply Sel.cons | apply Sel.drop)))) | exact RdL.nil _ _ _) (by omega)) (by omega) (by omega) (by first | exact rfl | exact (Int.toNat_of_nonneg (by omega)).symm) rfl ?_
                  refine WL.on rfl rfl ?_
                  refine WL.loadE0 (E := intE) Tryd.isAgg3 rfl (by first | with_reducible assumption | with_reducible exact RdL.mem (by with_reducible assumption) M | exact M.rdL (by first | ((repeat (first | with_reducible exact Has.here | with_reducible refine Has.there ?_)); done) | (repeat (first | exact Has.here | refine Has.there ?_))) | exact RdLH.at (by assumption) (M.sel (by first | ((repeat (first | with_reducible exact Sel.refl | with_reducible exact Sel.nil | with_reducible exact Del.here | with_reducible apply Del.there | with_reducible apply Sel.cons | with_reducible apply Sel.drop)); done) | (repeat (first | exact Sel.refl | exact Sel.nil | exact Del.here | apply Del.there | apply Sel.cons | apply Sel.drop)))) | exact RdL.nil _ _ _) (by omega) rfl rfl ?_
                  refine WL.on rfl rfl ?_
                  refine WL.geq rfl rfl rfl ?_
                  refine WL.pickF rfl rfl rfl ?_
                  refine WL.nil ?_
                  refine WX.next ?_
                  refine W.sub [(0, _), (2, _), (8, _), (9, _), (57, _)] (.cons rfl (.cons rfl (.cons rfl (.cons rfl (.cons rfl .nil))))) ?_
                  refine W.ite rfl (fun c8 => ?_) (fun c8 => ?_)
                  · refine W.seq ?_
                    refine W.region ?_
                    refine WL.assign rfl rfl ?_
                    refine WL.assign rfl rfl ?_
                    refine WL.nil ?_
                    refine WX.next ?_
                    refine W.sub [(6, _), (7, _)] (.cons rfl (.cons rfl .nil)) ?_
                    refine W.ret ?_
                    refine WX.thenRet ?_
                    refine WX.blockRet ?_
                    refine WX.thenRet ?_
                    refine WX.thenRet ?_
                    refine WX.blockRet ?_
                    refine WX.thenRet ?_
                    refine WX.ret2 rfl rfl rfl ?_
                    exact .inl ⟨.inl (List.any_eq_true.2 ⟨_, el_mem (l := l) (k := i) (by omega), decide_eq_true (by omega)⟩), rfl, M.sel (by first | ((repeat (first | with_reducible exact Sel.refl | with_reducible exact Sel.nil | with_reducible exact Del.here | with_reducible apply Del.there | with_reducible apply Sel.cons | with_reducible apply Sel.drop)); done) | (repeat (first | exact Sel.refl | exact Sel.nil | exact Del.here | apply Del.there | apply Sel.cons | apply Sel.drop)))⟩
                  · refine W.skip ?_
                    refine WX.next ?_
                    refine W.seq ?_
                    have hti : i < l.length := by omega
                    have htl : (l.take i).length = i := by rw [List.length_take]; omega
                    have hrl : (List.replicate i (-pat)).length = i := List.length_replicate
                    refine W.drawM ([Asr.row g3_3 52 [.slice B (l.take i).length cB, .int .i64 (km : Int), .int .i64 pat, .int .i64 0, .slice C (List.replicate i (-pat)).length cC, .int .i64 0], Asr.lst intE B cB (l.take i)]) (by kernel_rfl) (fun j => [4, 8, 9].contains j) M (by first | ((repeat (first | with_reducible exact Sel.refl | with_reducible exact Sel.nil | with_reducible exact Del.here | with_reducible apply Del.there | with_reducible apply Sel.cons | with_reducible apply Sel.drop)); done) | (repeat (first | exact Sel.refl | exact Sel.nil | exact Del.here | apply Del.there | apply Sel.cons | apply Sel.drop))) ?_
                    clear M; intro M
                    apply DG.pure_ [0, 1, 2, 3, 5, 6, 7] 7 rfl (by kernel_rfl) (by kernel_rfl)
                    · intro w
                      refine WL.move rfl rfl ?_
                      refine WL.move rfl rfl ?_
                      refine WL.nilCheck rfl rfl ?_
                      refine WL.fieldR (off := 0) Tryd.underlying52 rfl rfl Tryd.sizeOf22 rfl rfl rfl ?_
                      refine WL.move rfl rfl ?_
                      refine WL.move rfl rfl ?_
                      refine WL.idxA Tryd.underlying22 Tryd.sizeOf3 rfl rfl (RdL.isSome (E := intE) (by first | with_reducible assumption | with_reducible exact RdL.mem (by with_reducible assumption) M | exact M.rdL (by first | ((repeat (first | with_reducible exact Has.here | with_reducible refine Has.there ?_)); done) | (repeat (first | exact Has.here | refine Has.there ?_))) | exact RdLH.at (by assumption) (M.sel (by first | ((repeat (first | with_reducible exact Sel.refl | with_reducible exact Sel.nil | with_reducible exact Del.here | with_reducible apply Del.there | with_reducible apply Sel.cons | with_reducible apply Sel.drop)); done) | (repeat (first | exact Sel.refl | exact Sel.nil | exact Del.here | apply Del.there | apply Sel.cons | apply Sel.drop)))) | exact RdL.nil _ _ _) (by omega)) (by omega) (by omega) (by first | exact rfl | exact (Int.toNat_of_nonneg (by omega)).symm) rfl ?_
                      exact Chain.end_ rfl
                    apply DG.take [4, 8] 5 rfl (by kernel_rfl) (by kernel_rfl) (M.sel (by first | ((repeat (first | with_reducible exact Sel.refl | with_reducible exact Sel.nil | with_reducible exact Del.here | with_reducible apply Del.there | with_reducible apply Sel.cons | with_reducible apply Sel.drop)); done) | (repeat (first | exact Sel.refl | exact Sel.nil | exact Del.here | apply Del.there | apply Sel.cons | apply Sel.drop))))
                    · intro w M
                      refine WL.loadR Tryd.isAgg22 rfl M (by first | ((repeat (first | with_reducible exact Has.here | with_reducible refine Has.there ?_)); done) | (repeat (first | exact Has.here | refine Has.there ?_))) rfl rfl ?_
                      refine WL.loadE0 (E := intE) Tryd.isAgg3 rfl (by first | with_reducible assumption | with_reducible exact RdL.mem (by with_reducible assumption) M | exact M.rdL (by first | ((repeat (first | with_reducible exact Has.here | with_reducible refine Has.there ?_)); done) | (repeat (first | exact Has.here | refine Has.there ?_))) | exact RdLH.at (by assumption) (M.sel (by first | ((repeat (first | with_reducible exact Sel.refl | with_reducible exact Sel.nil | with_reducible exact Del.here | with_reducible apply Del.there | with_reducible apply Sel.cons | with_reducible apply Sel.drop)); done) | (repeat (first | exact Sel.refl | exact Sel.nil | exact Del.here | apply Del.there | apply Sel.cons | apply Sel.drop)))) | exact RdL.nil _ _ _) (by omega) rfl rfl ?_
                      exact Chain.end_ rfl
                    refine DG.step 9 4 rfl (by kernel_rfl) ?_
                    refine WL.buildL (E := intE) (l := [el l i]) Tryd.elem3 M rfl rfl rfl rfl rfl rfl ?_
                    intro g9_9 w M
                    refine DG.go (G := fun j => [4, 8, 9].contains j) (i := 9) (f' := 4) (done := [0, 1, 2, 3, 5, 6, 7, 4, 8]) (fun _ => M.sel (by first | ((repeat (first | with_reducible exact Sel.refl | with_reducible exact Sel.nil | with_reducible exact Del.here | with_reducible apply Del.there | with_reducible apply Sel.cons | with_reducible apply Sel.drop)); done) | (repeat (first | exact Sel.refl | exact Sel.nil | exact Del.here | apply Del.there | apply Sel.cons | apply Sel.drop)))) ?_
                    refine DG.step 10 3 rfl (by kernel_rfl) ?_
                    refine WL.appendL (E := intE) Tryd.elem3 rfl rfl M (by first | ((repeat (first | with_reducible exact Del.here | with_reducible apply Del.there)); done) | (repeat (first | exact Del.here | apply Del.there))) (by first | with_reducible assumption | with_reducible exact RdL.mem (by with_reducible assumption) M | exact M.rdL (by first | ((repeat (first | with_reducible exact Has.here | with_reducible refine Has.there ?_)); done) | (repeat (first | exact Has.here | refine Has.there ?_))) | exact RdLH.at (by assumption) (M.sel (by first | ((repeat (first | with_reducible exact Sel.refl | with_reducible exact Sel.nil | with_reducible exact Del.here | with_reducible apply Del.there | with_reducible apply Sel.cons | with_reducible apply Sel.drop)); done) | (repeat (first | exact Sel.refl | exact Sel.nil | exact Del.here | apply Del.there | apply Sel.cons | apply Sel.drop)))) | exact RdL.nil _ _ _) rfl rfl (by first | omega | (simp; done) | (simp; omega)) (by first | (simp only [maxLen]; omega) | (simp [maxLen]; done) | (simp [maxLen]; omega)) rfl ?_
                    intro A9_10 cap9_10 w M
                    refine DG.go (G := fun j => [4, 8, 9].contains j) (i := 10) (f' := 3) (done := [0, 1, 2, 3, 5, 6, 7, 4, 8, 9]) (fun h => by cases h) ?_
                    apply DG.pure_ [11, 12] 1 rfl (by kernel_rfl) (by kernel_rfl)
                    · intro w
                      refine WL.nilCheck rfl rfl ?_
                      refine WL.fieldR (off := 0) Tryd.underlying52 rfl rfl Tryd.sizeOf22 rfl rfl rfl ?_
                      exact Chain.end_ rfl
                    refine DG.step 13 0 rfl (by kernel_rfl) ?_
                    refine WL.storeR Tryd.sizeOf22 rfl rfl rfl M (by first | ((repeat (first | with_reducible exact Has.here | with_reducible refine Has.there ?_)); done) | (repeat (first | exact Has.here | refine Has.there ?_))) (by repeat (first | exact SetAt.zero | apply SetAt.succ)) (by first | ((repeat (first | with_reducible exact Upd.here | with_reducible apply Upd.there)); done) | (repeat (first | exact Upd.here | apply Upd.there))) ?_
                    intro w M
                    refine DG.go (G := fun j => [4, 8, 9].contains j) (i := 13) (f' := 0) (done := [0, 1, 2, 3, 5, 6, 7, 4, 8, 9, 10, 11, 12]) (fun h => by cases h) ?_
                    refine DG.end_ (by kernel_rfl) ?_
                    refine WX.next ?_
                    refine W.sub [(0, _), (2, _), (8, _), (9, _)] (.cons rfl (.cons rfl (.cons rfl (.cons rfl .nil)))) ?_
                    refine W.region ?_
                    refine WL.move rfl rfl ?_
                    refine WL.move rfl rfl ?_
                    refine WL.nilCheck rfl rfl ?_
                    refine WL.fieldR (off := 4) Tryd.underlying52 rfl rfl Tryd.sizeOf22 rfl rfl rfl ?_
                    refine WL.loadR Tryd.isAgg22 rfl M (by first | ((repeat (first | with_reducible exact Has.here | with_reducible refine Has.there ?_)); done) | (repeat (first | exact Has.here | refine Has.there ?_))) rfl rfl ?_
                    refine WL.move rfl rfl ?_
                    refine WL.neg rfl (show IntKind.i64.wrap (0 - pat) = -pat by rw [show (0 : Int) - pat = -pat by omega]; exact wI64 (by omega)) rfl ?_
                    refine WL.buildL (E := intE) (l := [-pat]) Tryd.elem3 M rfl rfl rfl rfl rfl rfl ?_
                    intro g10_7 w M
                    refine WL.appendL (E := intE) Tryd.elem3 rfl rfl M (by first | ((repeat (first | with_reducible exact Del.here | with_reducible apply Del.there)); done) | (repeat (first | exact Del.here | apply Del.there))) (by first | with_reducible assumption | with_reducible exact RdL.mem (by with_reducible assumption) M | exact M.rdL (by first | ((repeat (first | with_reducible exact Has.here | with_reducible refine Has.there ?_)); done) | (repeat (first | exact Has.here | refine Has.there ?_))) | exact RdLH.at (by assumption) (M.sel (by first | ((repeat (first | with_reducible exact Sel.refl | with_reducible exact Sel.nil | with_reducible exact Del.here | with_reducible apply Del.there | with_reducible apply Sel.cons | with_reducible apply Sel.drop)); done) | (repeat (first | exact Sel.refl | exact Sel.nil | exact Del.here | apply Del.there | apply Sel.cons | apply Sel.drop)))) | exact RdL.nil _ _ _) rfl rfl (by first | omega | (simp; done) | (simp; omega)) (by first | (simp only [maxLen]; omega) | (simp [maxLen]; done) | (simp [maxLen]; omega)) rfl ?_
                    intro A10_8 cap10_8 w M
                    refine WL.nilCheck rfl rfl ?_
                    refine WL.fieldR (off := 4) Tryd.underlying52 rfl rfl Tryd.sizeOf22 rfl rfl rfl ?_
                    refine WL.storeR Tryd.sizeOf22 rfl rfl rfl M (by first | ((repeat (first | with_reducible exact Has.here | with_reducible refine Has.there ?_)); done) | (repeat (first | exact Has.here | refine Has.there ?_))) (by repeat (first | exact SetAt.zero | apply SetAt.succ)) (by first | ((repeat (first | with_reducible exact Upd.here | with_reducible apply Upd.there)); done) | (repeat (first | exact Upd.here | apply Upd.there))) ?_
                    intro w M
                    refine WL.nil ?_
                    refine WX.blockNormal ?_
                    refine WX.next ?_
                    refine W.sub [(0, _), (2, _), (8, _), (9, _)] (.cons rfl (.cons rfl (.cons rfl (.cons rfl .nil)))) ?_
                    refine W.region ?_
                    refine WL.move rfl rfl ?_
                    refine WL.add rfl rfl (by first | exact wI64 (by omega) | rfl) rfl ?_
                    refine WL.assign rfl rfl ?_
                    refine WL.nil ?_
                    skip
                    have e3 : List.replicate i (-pat) ++ [-pat] = List.replicate (i + 1) (-pat) := (List.replicate_succ' ..).symm
                    rw [← take_snocZ hti, e3] at M
                    have hs2 : ∀ k, k < i + 1 → 0 ≤ el l k ∧ el l k < 12 := fun k hk => by
                      rcases Nat.lt_or_ge k i with h | h
                      · exact hs k h
                      · obtain rfl : k = i := by omega
                        omega
                    refine WX.round ((i + 1, (A9_10, cap9_10), (A10_8, cap10_8))) (by (repeat' (first | exact envSub.nil | refine envSub.cons ?_ ?_)) <;> first | rfl | (refine congrArg some ?_; refine congrArg (Value.int _) ?_; first | omega | (dsimp only; omega)) | (simp; done) | (refine congrArg some ?_; dsimp only; congr 1; omega) | (simp; omega)) ⟨M.sel (by first | ((repeat (first | with_reducible exact Sel.refl | with_reducible exact Sel.nil | with_reducible exact Del.here | with_reducible apply Del.there | with_reducible apply Sel.cons | with_reducible apply Sel.drop)); done) | (repeat (first | exact Sel.refl | exact Sel.nil | exact Del.here | apply Del.there | apply Sel.cons | apply Sel.drop))), ⟨by omega, hs2⟩⟩ (by first | omega | (dsimp only; omega))
              · refine W.exit ?_
                refine WX.thenExit ?_
                refine WX.thenExit ?_
                refine WX.blockHere ?_
                refine WX.next ?_
                refine W.seq ?_
                refine W.region ?_
                refine WL.move rfl rfl ?_
                refine WL.assign rfl rfl ?_
                refine WL.assign rfl rfl ?_
                refine WL.nil ?_
                refine WX.next ?_
                refine W.sub [(6, _), (7, _)] (.cons rfl (.cons rfl .nil)) ?_
                refine W.ret ?_
                refine WX.ret2 rfl rfl rfl ?_
                obtain rfl : i = l.length := by omega
                have hb : ¬ badV l (km : Int) pat := by
                  unfold badV
                  rintro (h1 | h1)
                  · obtain ⟨z, hz, hw⟩ := List.any_eq_true.1 h1
                    obtain ⟨k, hk, rfl⟩ := List.getElem_of_mem hz
                    have h2 := hs k hk
                    have e : el l k = l[k] := by simp [el, hk]
                    rw [e] at h2
                    have := of_decide_eq_true hw
                    omega
                  · omega
                rw [List.take_length] at M
                exact .inr ⟨hb, ⟨g3_3, B, cB, C, cC⟩, rfl, M.sel (by first | ((repeat (first | with_reducible exact Sel.refl | with_reducible exact Sel.nil | with_reducible exact Del.here | with_reducible apply Del.there | with_reducible apply Sel.cons | with_reducible apply Sel.drop)); done) | (repeat (first | exact Sel.refl | exact Sel.nil | exact Del.here | apply Del.there | apply Sel.cons | apply Sel.drop)))⟩
end Go.Proofs.YtmkhggfcgblefaaDoor
