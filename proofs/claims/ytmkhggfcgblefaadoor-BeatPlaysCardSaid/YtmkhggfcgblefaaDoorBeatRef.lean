/-
  Walks of the reference's view: Since, Up, Calm (seawallref14).
-/
import Derived.Test.YtmkhggfcgblefaaDoorBeatRefLaw
namespace Go.Proofs.YtmkhggfcgblefaaDoor
open Go Go.RowKit Bin

def rvCells (a : BvA) (r : Rv) : List Value := [.slice a.As r.sites.length a.cs, .int .i64 (r.me : Int), .int .i64 r.pat, .int .i64 r.now, .slice a.Ac r.heard.length a.cc, .int .i64 r.changed]
def rvL (a : BvA) (r : Rv) : List Asr := [Asr.row a.g 52 (rvCells a r), Asr.lst intE a.As a.cs r.sites, Asr.lst intE a.Ac a.cc r.heard]
theorem RSince_ok (a : BvA) (r : Rv) {N : Int} (ok : r.Ok N) (hN : N ≤ 1000000) (z : Int) (w0 w : World) (L : List Asr) (M : Mem w0 w (rvL a r ++ L)) : Fn Tryd.prog 24 [.pointer (some ⟨a.g, 0, none⟩), .int .i64 z] w fun v w' => v = .int .i64 (sinceZ (toBv r) z) ∧ Mem w0 w' (rvL a r ++ L) := by
  have hte := fun k (h : k < r.sites.length) => toBv_el r h
  have hts : (toBv r).sites = r.sites := rfl
  unfold sinceZ
  rw [hts]
  have hlen := ok.len
  have hme := ok.me
  have hnow := ok.now
  have hhe := ok.heard
  have hpat := ok.pat
  obtain ⟨T, hT⟩ : ∃ T, toBv r = T := ⟨_, rfl⟩
  rw [hT] at hte ⊢
  obtain ⟨g, As, cs, Ac, cc⟩ := a
  obtain ⟨sites, me, pat, now, heard, changed⟩ := r
  unfold rvL rvCells at M
  dsimp only [List.cons_append, List.nil_append] at M hte hlen hme hnow hhe hpat ⊢
  refine Fn.enter Tryd.func24 rfl Tryd.ntmps24 rfl ?_
  refine W.sub [(0, _), (1, _)] (.cons rfl (.cons rfl .nil)) ?_
  refine W.seq ?_
  refine W.region ?_
  refine WL.assign rfl rfl ?_
  refine WL.nil ?_
  refine WX.next ?_
  refine W.sub [(0, _), (1, _)] (.cons rfl (.cons rfl .nil)) ?_
  refine W.seq ?_
  refine W.block ?_
  refine W.seq ?_
  refine W.region ?_
  refine WL.move rfl rfl ?_
  refine WL.lss rfl rfl rfl ?_
  refine WL.moveIf rfl rfl (fun c0 => ?_) (fun c0 => ?_)
  · refine WL.off rfl rfl rfl rfl ?_
    refine WL.off rfl rfl rfl rfl ?_
    refine WL.off rfl rfl rfl rfl ?_
    refine WL.off rfl rfl rfl rfl ?_
    refine WL.off rfl rfl rfl rfl ?_
    refine WL.off rfl rfl rfl rfl ?_
    refine WL.off rfl rfl rfl rfl ?_
    refine WL.pickT rfl rfl rfl ?_
    refine WL.assign rfl rfl ?_
    refine WL.nil ?_
    refine WX.next ?_
    refine W.sub [(0, _), (1, _), (5, _)] (.cons rfl (.cons rfl (.cons rfl .nil))) ?_
    refine W.condT rfl ?_
    refine W.seq ?_
    refine W.region ?_
    refine WL.assign rfl rfl ?_
    refine WL.nil ?_
    refine WX.next ?_
    refine W.sub [(4, _)] (.cons rfl .nil) ?_
    refine W.ret ?_
    refine WX.blockRet ?_
    refine WX.thenRet ?_
    refine WX.ret1 rfl rfl ?_
    exact ⟨by rw [if_neg (by omega)], M⟩
  · refine WL.on rfl rfl ?_
    refine WL.move rfl rfl ?_
    refine WL.on rfl rfl ?_
    refine WL.move rfl rfl ?_
    refine WL.on rfl rfl ?_
    refine WL.nilCheck rfl rfl ?_
    refine WL.on rfl rfl ?_
    refine WL.fieldR (off := 0) Tryd.underlying52 rfl rfl Tryd.sizeOf22 rfl rfl rfl ?_
    refine WL.on rfl rfl ?_
    refine WL.loadR Tryd.isAgg22 rfl M (by first | ((repeat (first | with_reducible exact Has.here | with_reducible refine Has.there ?_)); done) | (repeat (first | exact Has.here | refine Has.there ?_))) rfl rfl ?_
    refine WL.on rfl rfl ?_
    refine WL.len Tryd.underlying22 rfl rfl ?_
    refine WL.on rfl rfl ?_
    refine WL.geq rfl rfl rfl ?_
    refine WL.pickF rfl rfl rfl ?_
    refine WL.assign rfl rfl ?_
    refine WL.nil ?_
    refine WX.next ?_
    refine W.sub [(0, _), (1, _), (5, _)] (.cons rfl (.cons rfl (.cons rfl .nil))) ?_
    refine W.ite rfl (fun c1 => ?_) (fun c1 => ?_)
    · refine W.seq ?_
      refine W.region ?_
      refine WL.assign rfl rfl ?_
      refine WL.nil ?_
      refine WX.next ?_
      refine W.sub [(4, _)] (.cons rfl .nil) ?_
      refine W.ret ?_
      refine WX.blockRet ?_
      refine WX.thenRet ?_
      refine WX.ret1 rfl rfl ?_
      exact ⟨by rw [if_neg (by omega)], M⟩
    · obtain ⟨k, hk⟩ : ∃ k : Nat, z = (k : Int) := ⟨z.toNat, by omega⟩
      subst hk
      have hkl : k < sites.length := by omega
      have hhk := hhe k (by omega)
      have hag : el T.since k = if k = me then 0 else if pat < now - el heard k then pat else now - el heard k := hte k hkl
      rw [if_pos (by omega), Int.toNat_natCast, hag]
      refine W.seq ?_
      refine W.region ?_
      refine WL.move rfl rfl ?_
      refine WL.move rfl rfl ?_
      refine WL.nilCheck rfl rfl ?_
      refine WL.fieldR (off := 1) Tryd.underlying52 rfl rfl Tryd.sizeOf3 rfl rfl rfl ?_
      refine WL.loadR Tryd.isAgg3 rfl M (by first | ((repeat (first | with_reducible exact Has.here | with_reducible refine Has.there ?_)); done) | (repeat (first | exact Has.here | refine Has.there ?_))) rfl rfl ?_
      refine WL.eqI rfl rfl rfl ?_
      refine WL.assign rfl rfl ?_
      refine WL.nil ?_
      refine WX.next ?_
      refine W.sub [(0, _), (1, _), (17, _)] (.cons rfl (.cons rfl (.cons rfl .nil))) ?_
      refine W.ite rfl (fun c2 => ?_) (fun c2 => ?_)
      · refine W.seq ?_
        refine W.region ?_
        refine WL.assign rfl rfl ?_
        refine WL.nil ?_
        refine WX.next ?_
        refine W.sub [(4, _)] (.cons rfl .nil) ?_
        refine W.ret ?_
        refine WX.blockRet ?_
        refine WX.thenRet ?_
        refine WX.ret1 rfl rfl ?_
        exact ⟨by rw [if_pos (by omega)], M⟩
      · refine W.seq ?_
        refine W.drawM (_) (by kernel_rfl) (fun j => [3, 7, 9, 10, 11, 15].contains j) M Sel.refl ?_
        clear M; intro M
        apply DG.pure_ [0, 1, 2, 4, 5, 6, 8, 12, 13, 14] 8 rfl (by kernel_rfl) (by kernel_rfl)
        · intro w
          refine WL.move rfl rfl ?_
          refine WL.nilCheck rfl rfl ?_
          refine WL.fieldR (off := 3) Tryd.underlying52 rfl rfl Tryd.sizeOf3 rfl rfl rfl ?_
          refine WL.move rfl rfl ?_
          refine WL.nilCheck rfl rfl ?_
          refine WL.fieldR (off := 4) Tryd.underlying52 rfl rfl Tryd.sizeOf22 rfl rfl rfl ?_
          refine WL.move rfl rfl ?_
          refine WL.move rfl rfl ?_
          refine WL.nilCheck rfl rfl ?_
          refine WL.fieldR (off := 2) Tryd.underlying52 rfl rfl Tryd.sizeOf3 rfl rfl rfl ?_
          exact Chain.end_ rfl
        apply DG.take [3, 7, 9, 10, 11, 15, 16, 17] 0 rfl (by kernel_rfl) (by kernel_rfl) (M.sel (by first | ((repeat (first | with_reducible exact Sel.refl | with_reducible exact Sel.nil | with_reducible exact Del.here | with_reducible apply Del.there | with_reducible apply Sel.cons | with_reducible apply Sel.drop)); done) | (repeat (first | exact Sel.refl | exact Sel.nil | exact Del.here | apply Del.there | apply Sel.cons | apply Sel.drop))))
        · intro w M
          refine WL.loadR Tryd.isAgg3 rfl M (by first | ((repeat (first | with_reducible exact Has.here | with_reducible refine Has.there ?_)); done) | (repeat (first | exact Has.here | refine Has.there ?_))) rfl rfl ?_
          refine WL.loadR Tryd.isAgg22 rfl M (by first | ((repeat (first | with_reducible exact Has.here | with_reducible refine Has.there ?_)); done) | (repeat (first | exact Has.here | refine Has.there ?_))) rfl rfl ?_
          refine WL.idxA Tryd.underlying22 Tryd.sizeOf3 rfl rfl (RdL.isSome (E := intE) (by first | with_reducible assumption | with_reducible exact RdL.mem (by with_reducible assumption) M | exact M.rdL (by first | ((repeat (first | with_reducible exact Has.here | with_reducible refine Has.there ?_)); done) | (repeat (first | exact Has.here | refine Has.there ?_))) | exact RdLH.at (by assumption) (M.sel (by first | ((repeat (first | with_reducible exact Sel.refl | with_reducible exact Sel.nil | with_reducible exact Del.here | with_reducible apply Del.there | with_reducible apply Sel.cons | with_reducible apply Sel.drop)); done) | (repeat (first | exact Sel.refl | exact Sel.nil | exact Del.here | apply Del.there | apply Sel.cons | apply Sel.drop)))) | exact RdL.nil _ _ _) (by omega)) (by omega) (by omega) (by first | exact rfl | exact (Int.toNat_of_nonneg (by omega)).symm) rfl ?_
          refine WL.loadE0 (E := intE) Tryd.isAgg3 rfl (by first | with_reducible assumption | with_reducible exact RdL.mem (by with_reducible assumption) M | exact M.rdL (by first | ((repeat (first | with_reducible exact Has.here | with_reducible refine Has.there ?_)); done) | (repeat (first | exact Has.here | refine Has.there ?_))) | exact RdLH.at (by assumption) (M.sel (by first | ((repeat (first | with_reducible exact Sel.refl | with_reducible exact Sel.nil | with_reducible exact Del.here | with_reducible apply Del.there | with_reducible apply Sel.cons | with_reducible apply Sel.drop)); done) | (repeat (first | exact Sel.refl | exact Sel.nil | exact Del.here | apply Del.there | apply Sel.cons | apply Sel.drop)))) | exact RdL.nil _ _ _) (by omega) rfl rfl ?_
          refine WL.sub' rfl rfl (by first | exact wI64 (by omega) | rfl) rfl ?_
          refine WL.loadR Tryd.isAgg3 rfl M (by first | ((repeat (first | with_reducible exact Has.here | with_reducible refine Has.there ?_)); done) | (repeat (first | exact Has.here | refine Has.there ?_))) rfl rfl ?_
          refine WL.gtr rfl rfl rfl ?_
          refine WL.assign rfl rfl ?_
          exact Chain.end_ rfl
        refine DG.end_ (by kernel_rfl) ?_
        refine WX.next ?_
        refine W.sub [(0, _), (1, _), (24, _)] (.cons rfl (.cons rfl (.cons rfl .nil))) ?_
        refine W.ite rfl (fun c3 => ?_) (fun c3 => ?_)
        · refine W.seq ?_
          refine W.region ?_
          refine WL.move rfl rfl ?_
          refine WL.nilCheck rfl rfl ?_
          refine WL.fieldR (off := 2) Tryd.underlying52 rfl rfl Tryd.sizeOf3 rfl rfl rfl ?_
          refine WL.loadR Tryd.isAgg3 rfl M (by first | ((repeat (first | with_reducible exact Has.here | with_reducible refine Has.there ?_)); done) | (repeat (first | exact Has.here | refine Has.there ?_))) rfl rfl ?_
          refine WL.assign rfl rfl ?_
          refine WL.nil ?_
          refine WX.next ?_
          refine W.sub [(4, _)] (.cons rfl .nil) ?_
          refine W.ret ?_
          refine WX.blockRet ?_
          refine WX.thenRet ?_
          refine WX.ret1 rfl rfl ?_
          exact ⟨by rw [if_neg (by omega), if_pos c3], M⟩
        · refine W.skip ?_
          refine WX.blockNormal ?_
          refine WX.next ?_
          refine W.seq ?_
          refine W.drawM (_) (by kernel_rfl) (fun j => [3, 7, 9, 10].contains j) M Sel.refl ?_
          clear M; intro M
          apply DG.pure_ [0, 1, 2, 4, 5, 6, 8] 6 rfl (by kernel_rfl) (by kernel_rfl)
          · intro w
            refine WL.move rfl rfl ?_
            refine WL.nilCheck rfl rfl ?_
            refine WL.fieldR (off := 3) Tryd.underlying52 rfl rfl Tryd.sizeOf3 rfl rfl rfl ?_
            refine WL.move rfl rfl ?_
            refine WL.nilCheck rfl rfl ?_
            refine WL.fieldR (off := 4) Tryd.underlying52 rfl rfl Tryd.sizeOf22 rfl rfl rfl ?_
            refine WL.move rfl rfl ?_
            exact Chain.end_ rfl
          apply DG.take [3, 7, 9, 10, 11, 12] 0 rfl (by kernel_rfl) (by kernel_rfl) (M.sel (by first | ((repeat (first | with_reducible exact Sel.refl | with_reducible exact Sel.nil | with_reducible exact Del.here | with_reducible apply Del.there | with_reducible apply Sel.cons | with_reducible apply Sel.drop)); done) | (repeat (first | exact Sel.refl | exact Sel.nil | exact Del.here | apply Del.there | apply Sel.cons | apply Sel.drop))))
          · intro w M
            refine WL.loadR Tryd.isAgg3 rfl M (by first | ((repeat (first | with_reducible exact Has.here | with_reducible refine Has.there ?_)); done) | (repeat (first | exact Has.here | refine Has.there ?_))) rfl rfl ?_
            refine WL.loadR Tryd.isAgg22 rfl M (by first | ((repeat (first | with_reducible exact Has.here | with_reducible refine Has.there ?_)); done) | (repeat (first | exact Has.here | refine Has.there ?_))) rfl rfl ?_
            refine WL.idxA Tryd.underlying22 Tryd.sizeOf3 rfl rfl (RdL.isSome (E := intE) (by first | with_reducible assumption | with_reducible exact RdL.mem (by with_reducible assumption) M | exact M.rdL (by first | ((repeat (first | with_reducible exact Has.here | with_reducible refine Has.there ?_)); done) | (repeat (first | exact Has.here | refine Has.there ?_))) | exact RdLH.at (by assumption) (M.sel (by first | ((repeat (first | with_reducible exact Sel.refl | with_reducible exact Sel.nil | with_reducible exact Del.here | with_reducible apply Del.there | with_reducible apply Sel.cons | with_reducible apply Sel.drop)); done) | (repeat (first | exact Sel.refl | exact Sel.nil | exact Del.here | apply Del.there | apply Sel.cons | apply Sel.drop)))) | exact RdL.nil _ _ _) (by omega)) (by omega) (by omega) (by first | exact rfl | exact (Int.toNat_of_nonneg (by omega)).symm) rfl ?_
            refine WL.loadE0 (E := intE) Tryd.isAgg3 rfl (by first | with_reducible assumption | with_reducible exact RdL.mem (by with_reducible assumption) M | exact M.rdL (by first | ((repeat (first | with_reducible exact Has.here | with_reducible refine Has.there ?_)); done) | (repeat (first | exact Has.here | refine Has.there ?_))) | exact RdLH.at (by assumption) (M.sel (by first | ((repeat (first | with_reducible exact Sel.refl | with_reducible exact Sel.nil | with_reducible exact Del.here | with_reducible apply Del.there | with_reducible apply Sel.cons | with_reducible apply Sel.drop)); done) | (repeat (first | exact Sel.refl | exact Sel.nil | exact Del.here | apply Del.there | apply Sel.cons | apply Sel.drop)))) | exact RdL.nil _ _ _) (by omega) rfl rfl ?_
            refine WL.sub' rfl rfl (by first | exact wI64 (by omega) | rfl) rfl ?_
            refine WL.assign rfl rfl ?_
            exact Chain.end_ rfl
          refine DG.end_ (by kernel_rfl) ?_
          refine WX.next ?_
          refine W.sub [(4, _)] (.cons rfl .nil) ?_
          refine W.ret ?_
          refine WX.ret1 rfl rfl ?_
          exact ⟨by rw [if_neg (by omega), if_neg c3], M⟩
theorem RUp_ok (a : BvA) (r : Rv) {N : Int} (ok : r.Ok N) (hN : N ≤ 1000000) (w0 w : World) (L : List Asr) (M : Mem w0 w (rvL a r ++ L)) : Fn Tryd.prog 20 [.pointer (some ⟨a.g, 0, none⟩)] w fun v w' => v = .int .u32 (upN (toBv r) : Int) ∧ Mem w0 w' (rvL a r ++ L) := by
  have hsl := toBv_len r
  have hts : (toBv r).sites = r.sites := rfl
  have htp : (toBv r).pat = r.pat := rfl
  have hn := ok.n
  have hsz : ∀ k : Nat, k < r.sites.length → sinceZ (toBv r) (k : Int) = el (toBv r).since k := fun k h => by unfold sinceZ; rw [hts, if_pos (by omega), Int.toNat_natCast]
  obtain ⟨T, hT⟩ : ∃ T, toBv r = T := ⟨_, rfl⟩
  rw [hT] at hsl hts htp hsz ⊢
  obtain ⟨C, hC⟩ : ∃ C, rvCells a r = C := ⟨_, rfl⟩
  have hR : rvL a r ++ L = Asr.row a.g 52 [.slice a.As r.sites.length a.cs, .int .i64 (r.me : Int), .int .i64 r.pat, .int .i64 r.now, .slice a.Ac r.heard.length a.cc, .int .i64 r.changed] :: Asr.lst intE a.As a.cs r.sites :: Asr.lst intE a.Ac a.cc r.heard :: L := rfl
  refine Fn.enter Tryd.func20 rfl Tryd.ntmps20 rfl ?_
  refine W.sub [(0, _)] (.cons rfl .nil) ?_
  refine W.seq ?_
  refine W.region ?_
  refine WL.assign rfl rfl ?_
  refine WL.nil ?_
  refine WX.next ?_
  refine W.sub [(0, _)] (.cons rfl .nil) ?_
  refine W.seq ?_
  refine W.region ?_
  refine WL.assign rfl rfl ?_
  refine WL.nil ?_
  refine WX.next ?_
  refine W.sub [(0, _), (3, _)] (.cons rfl (.cons rfl .nil)) ?_
  refine W.seq ?_
  refine W.seq ?_
  refine W.region ?_
  refine WL.assign rfl rfl ?_
  refine WL.nil ?_
  refine WX.next ?_
  refine W.sub [(0, _), (3, _), (4, _)] (.cons rfl (.cons rfl (.cons rfl .nil))) ?_
  refine W.block ?_
  refine W.loop (ι := Nat) (fun i => [(0, .pointer (some ⟨a.g, 0, none⟩)), (3, .int .u32 (bitsN ((upB T).take i) : Int)), (4, .int .i64 (i : Int))]) (fun zz w => Mem w0 w ((fun _ => rvL a r ++ L) zz) ∧ (fun i => i ≤ r.sites.length) zz) (fun i => r.sites.length - i) (0) (by (repeat' (first | exact envSub.nil | refine envSub.cons ?_ ?_)) <;> first | rfl | (refine congrArg some ?_; refine congrArg (Value.int _) ?_; first | omega | (dsimp only; omega)) | (simp; done) | (refine congrArg some ?_; dsimp only; congr 1; omega) | (simp; omega)) ⟨M.sel (by first | ((repeat (first | with_reducible exact Sel.refl | with_reducible exact Sel.nil | with_reducible exact Del.here | with_reducible apply Del.there | with_reducible apply Sel.cons | with_reducible apply Sel.drop)); done) | (repeat (first | exact Sel.refl | exact Sel.nil | exact Del.here | apply Del.there | apply Sel.cons | apply Sel.drop))), Nat.zero_le _⟩ ?_
  clear M; rintro (i) w ⟨M, hi⟩; dsimp only at M hi ⊢
  refine W.sub [(0, _), (3, _), (4, _)] (.cons rfl (.cons rfl (.cons rfl .nil))) ?_
  refine W.seq ?_
  refine W.seq ?_
  rw [hR] at M
  refine W.region ?_
  refine WL.move rfl rfl ?_
  refine WL.move rfl rfl ?_
  refine WL.nilCheck rfl rfl ?_
  refine WL.fieldR (off := 0) Tryd.underlying52 rfl rfl Tryd.sizeOf22 rfl rfl rfl ?_
  refine WL.loadR Tryd.isAgg22 rfl M (by first | ((repeat (first | with_reducible exact Has.here | with_reducible refine Has.there ?_)); done) | (repeat (first | exact Has.here | refine Has.there ?_))) rfl rfl ?_
  refine WL.len Tryd.underlying22 rfl rfl ?_
  refine WL.lss rfl rfl rfl ?_
  refine WL.nil ?_
  refine WX.next ?_
  refine W.sub [(0, _), (3, _), (4, _), (12, _)] (.cons rfl (.cons rfl (.cons rfl (.cons rfl .nil)))) ?_
  refine W.ite rfl (fun c0 => ?_) (fun c0 => ?_)
  · have hil : i < r.sites.length := by omega
    have hut := upB_take (s := T) (i := i) (by omega)
    rw [htp] at hut
    have hbl : ((upB T).take i).length = i := by rw [List.length_take]; unfold upB; rw [List.length_map]; omega
    have hbn := bitsN_lt ((upB T).take i)
    rw [hbl] at hbn
    have hsn := bitsN_snoc ((upB T).take i) (decide (el T.since i < r.pat))
    rw [hbl, ← hut] at hsn
    have hp2 : 2 ^ i ≤ 2 ^ 12 := Nat.pow_le_pow_right (by decide) (by omega)
    rw [← hR] at M
    refine W.skip ?_
    refine WX.next ?_
    refine W.seq ?_
    refine W.block ?_
    refine W.seq ?_
    refine W.region ?_
    refine WL.move rfl rfl ?_
    refine WL.move rfl rfl ?_
    refine WL.call Tryd.call24 rfl (RSince_ok a r ok hN (i : Int) w0 w L M) rfl ?_
    rintro _ w ⟨rfl, M⟩
    rw [hT, hsz i hil]
    rw [hR] at M
    refine WL.assign rfl rfl ?_
    refine WL.nil ?_
    refine WX.next ?_
    refine W.sub [(0, _), (3, _), (4, _), (5, _)] (.cons rfl (.cons rfl (.cons rfl (.cons rfl .nil)))) ?_
    refine W.seq ?_
    refine W.region ?_
    refine WL.move rfl rfl ?_
    refine WL.move rfl rfl ?_
    refine WL.nilCheck rfl rfl ?_
    refine WL.fieldR (off := 2) Tryd.underlying52 rfl rfl Tryd.sizeOf3 rfl rfl rfl ?_
    refine WL.loadR Tryd.isAgg3 rfl M (by first | ((repeat (first | with_reducible exact Has.here | with_reducible refine Has.there ?_)); done) | (repeat (first | exact Has.here | refine Has.there ?_))) rfl rfl ?_
    refine WL.lss rfl rfl rfl ?_
    refine WL.nil ?_
    refine WX.next ?_
    refine W.sub [(0, _), (3, _), (4, _), (23, _)] (.cons rfl (.cons rfl (.cons rfl (.cons rfl .nil)))) ?_
    refine W.ite rfl (fun c1 => ?_) (fun c1 => ?_)
    · refine W.region ?_
      refine WL.move rfl rfl ?_
      refine WL.move rfl rfl ?_
      refine WL.conv Tryd.underlying3 Tryd.underlying39 rfl (by first | exact wU64 (by omega) | exact mU64 _ | rfl) rfl ?_
      refine WL.shl rfl rfl (by omega) (by show _ ≤ (32 : Int); omega) (shl_bit (i := i) (by omega)) rfl ?_
      refine WL.add rfl rfl (show _ = ((bitsN ((upB T).take i) + 2 ^ i : Nat) : Int) from by rw [← Int.natCast_add]; exact wU32 (by omega)) rfl ?_
      refine WL.assign rfl rfl ?_
      refine WL.nil ?_
      refine WX.blockNormal ?_
      refine WX.next ?_
      refine W.sub [(0, _), (3, _), (4, _)] (.cons rfl (.cons rfl (.cons rfl .nil))) ?_
      refine W.region ?_
      refine WL.move rfl rfl ?_
      refine WL.add rfl rfl (by first | exact wI64 (by omega) | rfl) rfl ?_
      refine WL.assign rfl rfl ?_
      refine WL.nil ?_
      rw [decide_eq_true c1, if_pos rfl] at hsn
      rw [← hR] at M
      refine WX.round (i + 1) (.cons rfl (.cons (by rw [hsn]; rfl) (.cons (by refine congrArg some (congrArg (Value.int _) ?_); omega) .nil))) ⟨M.sel (by first | ((repeat (first | with_reducible exact Sel.refl | with_reducible exact Sel.nil | with_reducible exact Del.here | with_reducible apply Del.there | with_reducible apply Sel.cons | with_reducible apply Sel.drop)); done) | (repeat (first | exact Sel.refl | exact Sel.nil | exact Del.here | apply Del.there | apply Sel.cons | apply Sel.drop))), (by omega)⟩ (by first | omega | (dsimp only; omega))
    · refine W.skip ?_
      refine WX.blockNormal ?_
      refine WX.next ?_
      refine W.region ?_
      refine WL.move rfl rfl ?_
      refine WL.add rfl rfl (by first | exact wI64 (by omega) | rfl) rfl ?_
      refine WL.assign rfl rfl ?_
      refine WL.nil ?_
      rw [decide_eq_false c1, if_neg (by decide), Nat.add_zero] at hsn
      rw [← hR] at M
      refine WX.round (i + 1) (.cons rfl (.cons (by rw [hsn]; rfl) (.cons (by refine congrArg some (congrArg (Value.int _) ?_); omega) .nil))) ⟨M.sel (by first | ((repeat (first | with_reducible exact Sel.refl | with_reducible exact Sel.nil | with_reducible exact Del.here | with_reducible apply Del.there | with_reducible apply Sel.cons | with_reducible apply Sel.drop)); done) | (repeat (first | exact Sel.refl | exact Sel.nil | exact Del.here | apply Del.there | apply Sel.cons | apply Sel.drop))), (by omega)⟩ (by first | omega | (dsimp only; omega))
  · refine W.exit ?_
    refine WX.thenExit ?_
    refine WX.thenExit ?_
    refine WX.blockHere ?_
    refine WX.next ?_
    refine W.seq ?_
    refine W.region ?_
    refine WL.move rfl rfl ?_
    refine WL.assign rfl rfl ?_
    refine WL.nil ?_
    refine WX.next ?_
    refine W.sub [(2, _)] (.cons rfl .nil) ?_
    refine W.ret ?_
    refine WX.ret1 rfl rfl ?_
    obtain rfl : i = r.sites.length := by omega
    have e : (upB T).take r.sites.length = upB T := List.take_of_length_le (by unfold upB; rw [List.length_map]; omega)
    rw [e]
    exact ⟨rfl, by rw [hR]; exact M.sel (by first | ((repeat (first | with_reducible exact Sel.refl | with_reducible exact Sel.nil | with_reducible exact Del.here | with_reducible apply Del.there | with_reducible apply Sel.cons | with_reducible apply Sel.drop)); done) | (repeat (first | exact Sel.refl | exact Sel.nil | exact Del.here | apply Del.there | apply Sel.cons | apply Sel.drop)))⟩
theorem RCalm_ok (a : BvA) (r : Rv) {N : Int} (ok : r.Ok N) (hN : N ≤ 1000000) (w0 w : World) (L : List Asr) (M : Mem w0 w (rvL a r ++ L)) : Fn Tryd.prog 22 [.pointer (some ⟨a.g, 0, none⟩)] w fun v w' => v = .int .i64 (toBv r).calm ∧ Mem w0 w' (rvL a r ++ L) := by
  have hnow := ok.now
  have hch := ok.changed
  have hcv : (toBv r).calm = if 1000 < r.now - r.changed then 1000 else r.now - r.changed := rfl
  rw [hcv]
  have hR : rvL a r ++ L = Asr.row a.g 52 [.slice a.As r.sites.length a.cs, .int .i64 (r.me : Int), .int .i64 r.pat, .int .i64 r.now, .slice a.Ac r.heard.length a.cc, .int .i64 r.changed] :: Asr.lst intE a.As a.cs r.sites :: Asr.lst intE a.Ac a.cc r.heard :: L := rfl
  rw [hR] at M
  refine Fn.enter Tryd.func22 rfl Tryd.ntmps22 rfl ?_
  refine W.sub [(0, _)] (.cons rfl .nil) ?_
  refine W.seq ?_
  refine W.region ?_
  refine WL.assign rfl rfl ?_
  refine WL.nil ?_
  refine WX.next ?_
  refine W.sub [(0, _)] (.cons rfl .nil) ?_
  refine W.seq ?_
  refine W.seq ?_
  refine W.drawM (_) (by kernel_rfl) (fun j => [3, 7].contains j) M Sel.refl ?_
  clear M; intro M
  apply DG.pure_ [0, 1, 2, 4, 5, 6] 4 rfl (by kernel_rfl) (by kernel_rfl)
  · intro w
    refine WL.move rfl rfl ?_
    refine WL.nilCheck rfl rfl ?_
    refine WL.fieldR (off := 3) Tryd.underlying52 rfl rfl Tryd.sizeOf3 rfl rfl rfl ?_
    refine WL.move rfl rfl ?_
    refine WL.nilCheck rfl rfl ?_
    refine WL.fieldR (off := 5) Tryd.underlying52 rfl rfl Tryd.sizeOf3 rfl rfl rfl ?_
    exact Chain.end_ rfl
  apply DG.take [3, 7, 8, 9] 0 rfl (by kernel_rfl) (by kernel_rfl) (M.sel (by first | ((repeat (first | with_reducible exact Sel.refl | with_reducible exact Sel.nil | with_reducible exact Del.here | with_reducible apply Del.there | with_reducible apply Sel.cons | with_reducible apply Sel.drop)); done) | (repeat (first | exact Sel.refl | exact Sel.nil | exact Del.here | apply Del.there | apply Sel.cons | apply Sel.drop))))
  · intro w M
    refine WL.loadR Tryd.isAgg3 rfl M (by first | ((repeat (first | with_reducible exact Has.here | with_reducible refine Has.there ?_)); done) | (repeat (first | exact Has.here | refine Has.there ?_))) rfl rfl ?_
    refine WL.loadR Tryd.isAgg3 rfl M (by first | ((repeat (first | with_reducible exact Has.here | with_reducible refine Has.there ?_)); done) | (repeat (first | exact Has.here | refine Has.there ?_))) rfl rfl ?_
    refine WL.sub' rfl rfl (by first | exact wI64 (by omega) | rfl) rfl ?_
    refine WL.gtr rfl rfl rfl ?_
    exact Chain.end_ rfl
  refine DG.end_ (by kernel_rfl) ?_
  refine WX.next ?_
  refine W.sub [(0, _), (12, _)] (.cons rfl (.cons rfl .nil)) ?_
  refine W.ite rfl (fun c0 => ?_) (fun c0 => ?_)
  · refine W.seq ?_
    refine W.region ?_
    refine WL.assign rfl rfl ?_
    refine WL.nil ?_
    refine WX.next ?_
    refine W.sub [(2, _)] (.cons rfl .nil) ?_
    refine W.ret ?_
    refine WX.thenRet ?_
    refine WX.ret1 rfl rfl ?_
    exact ⟨by rw [if_pos c0], M⟩
  · refine W.skip ?_
    refine WX.next ?_
    refine W.seq ?_
    refine W.drawM (_) (by kernel_rfl) (fun j => [3, 7].contains j) M Sel.refl ?_
    clear M; intro M
    apply DG.pure_ [0, 1, 2, 4, 5, 6] 4 rfl (by kernel_rfl) (by kernel_rfl)
    · intro w
      refine WL.move rfl rfl ?_
      refine WL.nilCheck rfl rfl ?_
      refine WL.fieldR (off := 3) Tryd.underlying52 rfl rfl Tryd.sizeOf3 rfl rfl rfl ?_
      refine WL.move rfl rfl ?_
      refine WL.nilCheck rfl rfl ?_
      refine WL.fieldR (off := 5) Tryd.underlying52 rfl rfl Tryd.sizeOf3 rfl rfl rfl ?_
      exact Chain.end_ rfl
    apply DG.take [3, 7, 8, 9] 0 rfl (by kernel_rfl) (by kernel_rfl) (M.sel (by first | ((repeat (first | with_reducible exact Sel.refl | with_reducible exact Sel.nil | with_reducible exact Del.here | with_reducible apply Del.there | with_reducible apply Sel.cons | with_reducible apply Sel.drop)); done) | (repeat (first | exact Sel.refl | exact Sel.nil | exact Del.here | apply Del.there | apply Sel.cons | apply Sel.drop))))
    · intro w M
      refine WL.loadR Tryd.isAgg3 rfl M (by first | ((repeat (first | with_reducible exact Has.here | with_reducible refine Has.there ?_)); done) | (repeat (first | exact Has.here | refine Has.there ?_))) rfl rfl ?_
      refine WL.loadR Tryd.isAgg3 rfl M (by first | ((repeat (first | with_reducible exact Has.here | with_reducible refine Has.there ?_)); done) | (repeat (first | exact Has.here | refine Has.there ?_))) rfl rfl ?_
      refine WL.sub' rfl rfl (by first | exact wI64 (by omega) | rfl) rfl ?_
      refine WL.assign rfl rfl ?_
      exact Chain.end_ rfl
    refine DG.end_ (by kernel_rfl) ?_
    refine WX.next ?_
    refine W.sub [(2, _)] (.cons rfl .nil) ?_
    refine W.ret ?_
    refine WX.ret1 rfl rfl ?_
    exact ⟨by rw [if_neg c0], M⟩
end Go.Proofs.YtmkhggfcgblefaaDoor
