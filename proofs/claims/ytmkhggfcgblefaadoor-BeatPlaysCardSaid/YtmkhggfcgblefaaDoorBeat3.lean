/-
  Walks: Order, Leader, New; a view that is not there (beat).
-/
import Derived.Test.YtmkhggfcgblefaaDoorBeat2
namespace Go.Proofs.YtmkhggfcgblefaaDoor
open Go Go.RowKit Bin

theorem rd_one {w0 w : World} {L : List Asr} {g : Nat} {t : TypeId} {cs : List Value} (M : Mem w0 w L) (h : Has (Asr.row g t cs) L) (o : Nat) {v : Value} (hv : cs[o]? = some v) : Rd w (some ⟨g, o, none⟩) 1 1 1 [v] := by
  obtain ⟨L', hd⟩ := h.del
  refine ⟨rfl, Nat.le_refl _, fun _ => ⟨_, rfl, (Array.getElem?_eq_some_iff.1 (M.del hd).head).1, fun j u hu => ?_⟩⟩
  have hj : j < 1 := (List.getElem?_eq_some_iff.1 hu).1
  obtain rfl : j = 0 := by omega
  rw [add_lit, Nat.add_zero, M.cellH h, hv]
  exact hu
theorem Rd.one {w : World} {ad : Addr} {v : Value} (h : Rd w (some ad) 1 1 1 [v]) : w.cell? ad = some v := by
  obtain ⟨_, e, _, hc⟩ := h.at_ (by decide)
  cases e
  have := hc 0 v rfl
  have e2 : ad.add 0 = ad := by cases ad; rw [Addr.add]; simp
  rwa [e2] at this
theorem Order1_ok {g gv gh : Nat} {As : Option Addr} {cs : Nat} {sites : List Int} {home : Int} {x y : Nat} (hx : x < sites.length) (hy : y < sites.length) {w0 : World} (hv : Rd w0 (some ⟨gv, 0, none⟩) 1 1 1 [.pointer (some ⟨g, 0, none⟩)]) (hh : Rd w0 (some ⟨gh, 0, none⟩) 1 1 1 [.int .i64 home])
    (hs : Rd w0 (some ⟨g, 0, none⟩) 1 1 1 [.slice As sites.length cs]) (hS : RdL w0 intE As cs sites) :
    Fn Tryd.prog 33 [.int .i64 (x : Int), .int .i64 (y : Int), .pointer (some ⟨gv, 0, none⟩), .pointer (some ⟨gh, 0, none⟩)] w0 fun v w' => v = .int .i64 (cmpN sites home (x : Int) (y : Int)) ∧ Mem w0 w' [] := by
  have M := Mem.refl w0
  obtain ⟨w, hw⟩ : ∃ w, w = w0 := ⟨w0, rfl⟩
  have ex : el sites x = siteOf sites (x : Int) := by unfold siteOf; rw [Int.toNat_natCast]
  have ey : el sites y = siteOf sites (y : Int) := by unfold siteOf; rw [Int.toNat_natCast]
  refine Fn.enter Tryd.func33 rfl Tryd.ntmps33 rfl ?_
  refine W.sub [(0, _), (1, _), (2, _), (3, _)] (.cons rfl (.cons rfl (.cons rfl (.cons rfl .nil)))) ?_
  refine W.seq ?_
  refine W.region ?_
  refine WL.assign rfl rfl ?_
  refine WL.nil ?_
  refine WX.next ?_
  refine W.sub [(0, _), (1, _), (2, _), (3, _)] (.cons rfl (.cons rfl (.cons rfl (.cons rfl .nil)))) ?_
  refine W.seq ?_
  refine W.drawM ([]) (by kernel_rfl) (fun j => [0, 1, 2, 3, 5, 6, 7, 8, 9, 10, 11, 12, 14, 15, 16, 17, 18, 19, 20, 21, 22, 24, 25, 26, 27, 28, 29, 31, 32].contains j) M (by first | ((repeat (first | with_reducible exact Sel.refl | with_reducible exact Sel.nil | with_reducible exact Del.here | with_reducible apply Del.there | with_reducible apply Sel.cons | with_reducible apply Sel.drop)); done) | (repeat (first | exact Sel.refl | exact Sel.nil | exact Del.here | apply Del.there | apply Sel.cons | apply Sel.drop))) ?_
  clear M; intro M
  apply DG.pure_ [4, 13, 23, 30, 34, 35] 34 rfl (by kernel_rfl) (by kernel_rfl)
  · intro w
    refine WL.move rfl rfl ?_
    refine WL.move rfl rfl ?_
    refine WL.move rfl rfl ?_
    refine WL.move rfl rfl ?_
    refine WL.move rfl rfl ?_
    refine WL.move rfl rfl ?_
    exact Chain.end_ rfl
  apply DG.take [0, 1, 2, 3, 5, 6, 7, 9, 10, 11, 12, 14, 15, 16, 19, 20, 21, 22, 24, 25, 26, 27, 28, 29, 31, 32] 8 rfl (by kernel_rfl) (by kernel_rfl) (M.sel (by first | ((repeat (first | with_reducible exact Sel.refl | with_reducible exact Sel.nil | with_reducible exact Del.here | with_reducible apply Del.there | with_reducible apply Sel.cons | with_reducible apply Sel.drop)); done) | (repeat (first | exact Sel.refl | exact Sel.nil | exact Del.here | apply Del.there | apply Sel.cons | apply Sel.drop))))
  · intro w M
    refine WL.load Tryd.isAgg24 rfl ((Rd.mem hv M).one) rfl ?_
    refine WL.nilCheck rfl rfl ?_
    refine WL.fieldR (off := 0) Tryd.underlying50 rfl rfl Tryd.sizeOf22 rfl rfl rfl ?_
    refine WL.load Tryd.isAgg22 rfl ((Rd.mem hs M).one) rfl ?_
    refine WL.idxA Tryd.underlying22 Tryd.sizeOf3 rfl rfl (RdL.isSome (E := intE) (by first | with_reducible assumption | with_reducible exact RdL.mem (by with_reducible assumption) M | exact M.rdL (by first | ((repeat (first | with_reducible exact Has.here | with_reducible refine Has.there ?_)); done) | (repeat (first | exact Has.here | refine Has.there ?_))) | exact RdLH.at (by assumption) (M.sel (by first | ((repeat (first | with_reducible exact Sel.refl | with_reducible exact Sel.nil | with_reducible exact Del.here | with_reducible apply Del.there | with_reducible apply Sel.cons | with_reducible apply Sel.drop)); done) | (repeat (first | exact Sel.refl | exact Sel.nil | exact Del.here | apply Del.there | apply Sel.cons | apply Sel.drop)))) | exact RdL.nil _ _ _) (by omega)) (by omega) (by omega) (by first | exact rfl | exact (Int.toNat_of_nonneg (by omega)).symm) rfl ?_
    refine WL.loadE0 (E := intE) Tryd.isAgg3 rfl (by first | with_reducible assumption | with_reducible exact RdL.mem (by with_reducible assumption) M | exact M.rdL (by first | ((repeat (first | with_reducible exact Has.here | with_reducible refine Has.there ?_)); done) | (repeat (first | exact Has.here | refine Has.there ?_))) | exact RdLH.at (by assumption) (M.sel (by first | ((repeat (first | with_reducible exact Sel.refl | with_reducible exact Sel.nil | with_reducible exact Del.here | with_reducible apply Del.there | with_reducible apply Sel.cons | with_reducible apply Sel.drop)); done) | (repeat (first | exact Sel.refl | exact Sel.nil | exact Del.here | apply Del.there | apply Sel.cons | apply Sel.drop)))) | exact RdL.nil _ _ _) (by omega) rfl rfl ?_
    refine WL.load Tryd.isAgg3 rfl ((Rd.mem hh M).one) rfl ?_
    refine WL.load Tryd.isAgg24 rfl ((Rd.mem hv M).one) rfl ?_
    refine WL.nilCheck rfl rfl ?_
    refine WL.fieldR (off := 0) Tryd.underlying50 rfl rfl Tryd.sizeOf22 rfl rfl rfl ?_
    refine WL.load Tryd.isAgg22 rfl ((Rd.mem hs M).one) rfl ?_
    refine WL.idxA Tryd.underlying22 Tryd.sizeOf3 rfl rfl (RdL.isSome (E := intE) (by first | with_reducible assumption | with_reducible exact RdL.mem (by with_reducible assumption) M | exact M.rdL (by first | ((repeat (first | with_reducible exact Has.here | with_reducible refine Has.there ?_)); done) | (repeat (first | exact Has.here | refine Has.there ?_))) | exact RdLH.at (by assumption) (M.sel (by first | ((repeat (first | with_reducible exact Sel.refl | with_reducible exact Sel.nil | with_reducible exact Del.here | with_reducible apply Del.there | with_reducible apply Sel.cons | with_reducible apply Sel.drop)); done) | (repeat (first | exact Sel.refl | exact Sel.nil | exact Del.here | apply Del.there | apply Sel.cons | apply Sel.drop)))) | exact RdL.nil _ _ _) (by omega)) (by omega) (by omega) (by first | exact rfl | exact (Int.toNat_of_nonneg (by omega)).symm) rfl ?_
    refine WL.loadE0 (E := intE) Tryd.isAgg3 rfl (by first | with_reducible assumption | with_reducible exact RdL.mem (by with_reducible assumption) M | exact M.rdL (by first | ((repeat (first | with_reducible exact Has.here | with_reducible refine Has.there ?_)); done) | (repeat (first | exact Has.here | refine Has.there ?_))) | exact RdLH.at (by assumption) (M.sel (by first | ((repeat (first | with_reducible exact Sel.refl | with_reducible exact Sel.nil | with_reducible exact Del.here | with_reducible apply Del.there | with_reducible apply Sel.cons | with_reducible apply Sel.drop)); done) | (repeat (first | exact Sel.refl | exact Sel.nil | exact Del.here | apply Del.there | apply Sel.cons | apply Sel.drop)))) | exact RdL.nil _ _ _) (by omega) rfl rfl ?_
    refine WL.load Tryd.isAgg3 rfl ((Rd.mem hh M).one) rfl ?_
    refine WL.load Tryd.isAgg24 rfl ((Rd.mem hv M).one) rfl ?_
    refine WL.nilCheck rfl rfl ?_
    refine WL.fieldR (off := 0) Tryd.underlying50 rfl rfl Tryd.sizeOf22 rfl rfl rfl ?_
    refine WL.load Tryd.isAgg22 rfl ((Rd.mem hs M).one) rfl ?_
    refine WL.idxA Tryd.underlying22 Tryd.sizeOf3 rfl rfl (RdL.isSome (E := intE) (by first | with_reducible assumption | with_reducible exact RdL.mem (by with_reducible assumption) M | exact M.rdL (by first | ((repeat (first | with_reducible exact Has.here | with_reducible refine Has.there ?_)); done) | (repeat (first | exact Has.here | refine Has.there ?_))) | exact RdLH.at (by assumption) (M.sel (by first | ((repeat (first | with_reducible exact Sel.refl | with_reducible exact Sel.nil | with_reducible exact Del.here | with_reducible apply Del.there | with_reducible apply Sel.cons | with_reducible apply Sel.drop)); done) | (repeat (first | exact Sel.refl | exact Sel.nil | exact Del.here | apply Del.there | apply Sel.cons | apply Sel.drop)))) | exact RdL.nil _ _ _) (by omega)) (by omega) (by omega) (by first | exact rfl | exact (Int.toNat_of_nonneg (by omega)).symm) rfl ?_
    refine WL.loadE0 (E := intE) Tryd.isAgg3 rfl (by first | with_reducible assumption | with_reducible exact RdL.mem (by with_reducible assumption) M | exact M.rdL (by first | ((repeat (first | with_reducible exact Has.here | with_reducible refine Has.there ?_)); done) | (repeat (first | exact Has.here | refine Has.there ?_))) | exact RdLH.at (by assumption) (M.sel (by first | ((repeat (first | with_reducible exact Sel.refl | with_reducible exact Sel.nil | with_reducible exact Del.here | with_reducible apply Del.there | with_reducible apply Sel.cons | with_reducible apply Sel.drop)); done) | (repeat (first | exact Sel.refl | exact Sel.nil | exact Del.here | apply Del.there | apply Sel.cons | apply Sel.drop)))) | exact RdL.nil _ _ _) (by omega) rfl rfl ?_
    refine WL.load Tryd.isAgg24 rfl ((Rd.mem hv M).one) rfl ?_
    refine WL.nilCheck rfl rfl ?_
    refine WL.fieldR (off := 0) Tryd.underlying50 rfl rfl Tryd.sizeOf22 rfl rfl rfl ?_
    refine WL.load Tryd.isAgg22 rfl ((Rd.mem hs M).one) rfl ?_
    refine WL.idxA Tryd.underlying22 Tryd.sizeOf3 rfl rfl (RdL.isSome (E := intE) (by first | with_reducible assumption | with_reducible exact RdL.mem (by with_reducible assumption) M | exact M.rdL (by first | ((repeat (first | with_reducible exact Has.here | with_reducible refine Has.there ?_)); done) | (repeat (first | exact Has.here | refine Has.there ?_))) | exact RdLH.at (by assumption) (M.sel (by first | ((repeat (first | with_reducible exact Sel.refl | with_reducible exact Sel.nil | with_reducible exact Del.here | with_reducible apply Del.there | with_reducible apply Sel.cons | with_reducible apply Sel.drop)); done) | (repeat (first | exact Sel.refl | exact Sel.nil | exact Del.here | apply Del.there | apply Sel.cons | apply Sel.drop)))) | exact RdL.nil _ _ _) (by omega)) (by omega) (by omega) (by first | exact rfl | exact (Int.toNat_of_nonneg (by omega)).symm) rfl ?_
    refine WL.loadE0 (E := intE) Tryd.isAgg3 rfl (by first | with_reducible assumption | with_reducible exact RdL.mem (by with_reducible assumption) M | exact M.rdL (by first | ((repeat (first | with_reducible exact Has.here | with_reducible refine Has.there ?_)); done) | (repeat (first | exact Has.here | refine Has.there ?_))) | exact RdLH.at (by assumption) (M.sel (by first | ((repeat (first | with_reducible exact Sel.refl | with_reducible exact Sel.nil | with_reducible exact Del.here | with_reducible apply Del.there | with_reducible apply Sel.cons | with_reducible apply Sel.drop)); done) | (repeat (first | exact Sel.refl | exact Sel.nil | exact Del.here | apply Del.there | apply Sel.cons | apply Sel.drop)))) | exact RdL.nil _ _ _) (by omega) rfl rfl ?_
    exact Chain.end_ rfl
  refine DG.step 8 7 rfl (by kernel_rfl) ?_
  refine WL.call Tryd.call36 rfl (away_ok (el sites x) home _) rfl ?_
  rintro _ _ ⟨rfl, rfl⟩
  refine DG.go (G := fun j => [0, 1, 2, 3, 5, 6, 7, 8, 9, 10, 11, 12, 14, 15, 16, 17, 18, 19, 20, 21, 22, 24, 25, 26, 27, 28, 29, 31, 32].contains j) (i := 8) (f' := 7) (done := [4, 13, 23, 30, 34, 35, 0, 1, 2, 3, 5, 6, 7, 9, 10, 11, 12, 14, 15, 16, 19, 20, 21, 22, 24, 25, 26, 27, 28, 29, 31, 32]) (fun _ => M.sel (by first | ((repeat (first | with_reducible exact Sel.refl | with_reducible exact Sel.nil | with_reducible exact Del.here | with_reducible apply Del.there | with_reducible apply Sel.cons | with_reducible apply Sel.drop)); done) | (repeat (first | exact Sel.refl | exact Sel.nil | exact Del.here | apply Del.there | apply Sel.cons | apply Sel.drop)))) ?_
  refine DG.step 17 6 rfl (by kernel_rfl) ?_
  refine WL.call Tryd.call36 rfl (away_ok (el sites y) home _) rfl ?_
  rintro _ _ ⟨rfl, rfl⟩
  refine DG.go (G := fun j => [0, 1, 2, 3, 5, 6, 7, 8, 9, 10, 11, 12, 14, 15, 16, 17, 18, 19, 20, 21, 22, 24, 25, 26, 27, 28, 29, 31, 32].contains j) (i := 17) (f' := 6) (done := [4, 13, 23, 30, 34, 35, 0, 1, 2, 3, 5, 6, 7, 9, 10, 11, 12, 14, 15, 16, 19, 20, 21, 22, 24, 25, 26, 27, 28, 29, 31, 32, 8]) (fun _ => M.sel (by first | ((repeat (first | with_reducible exact Sel.refl | with_reducible exact Sel.nil | with_reducible exact Del.here | with_reducible apply Del.there | with_reducible apply Sel.cons | with_reducible apply Sel.drop)); done) | (repeat (first | exact Sel.refl | exact Sel.nil | exact Del.here | apply Del.there | apply Sel.cons | apply Sel.drop)))) ?_
  refine DG.step 18 5 rfl (by kernel_rfl) ?_
  refine WL.call Tryd.call35 rfl (Compare_ok _ _ _) rfl ?_
  rintro _ _ ⟨rfl, rfl⟩
  refine DG.go (G := fun j => [0, 1, 2, 3, 5, 6, 7, 8, 9, 10, 11, 12, 14, 15, 16, 17, 18, 19, 20, 21, 22, 24, 25, 26, 27, 28, 29, 31, 32].contains j) (i := 18) (f' := 5) (done := [4, 13, 23, 30, 34, 35, 0, 1, 2, 3, 5, 6, 7, 9, 10, 11, 12, 14, 15, 16, 19, 20, 21, 22, 24, 25, 26, 27, 28, 29, 31, 32, 8, 17]) (fun _ => M.sel (by first | ((repeat (first | with_reducible exact Sel.refl | with_reducible exact Sel.nil | with_reducible exact Del.here | with_reducible apply Del.there | with_reducible apply Sel.cons | with_reducible apply Sel.drop)); done) | (repeat (first | exact Sel.refl | exact Sel.nil | exact Del.here | apply Del.there | apply Sel.cons | apply Sel.drop)))) ?_
  refine DG.step 33 4 rfl (by kernel_rfl) ?_
  refine WL.call Tryd.call35 rfl (Compare_ok _ _ _) rfl ?_
  rintro _ _ ⟨rfl, rfl⟩
  refine DG.go (G := fun j => [0, 1, 2, 3, 5, 6, 7, 8, 9, 10, 11, 12, 14, 15, 16, 17, 18, 19, 20, 21, 22, 24, 25, 26, 27, 28, 29, 31, 32].contains j) (i := 33) (f' := 4) (done := [4, 13, 23, 30, 34, 35, 0, 1, 2, 3, 5, 6, 7, 9, 10, 11, 12, 14, 15, 16, 19, 20, 21, 22, 24, 25, 26, 27, 28, 29, 31, 32, 8, 17, 18]) (fun h => by cases h) ?_
  refine DG.step 36 3 rfl (by kernel_rfl) ?_
  refine WL.call Tryd.call35 rfl (Compare_ok _ _ _) rfl ?_
  rintro _ _ ⟨rfl, rfl⟩
  refine DG.go (G := fun j => [0, 1, 2, 3, 5, 6, 7, 8, 9, 10, 11, 12, 14, 15, 16, 17, 18, 19, 20, 21, 22, 24, 25, 26, 27, 28, 29, 31, 32].contains j) (i := 36) (f' := 3) (done := [4, 13, 23, 30, 34, 35, 0, 1, 2, 3, 5, 6, 7, 9, 10, 11, 12, 14, 15, 16, 19, 20, 21, 22, 24, 25, 26, 27, 28, 29, 31, 32, 8, 17, 18, 33]) (fun h => by cases h) ?_
  refine DG.step 37 2 rfl (by kernel_rfl) ?_
  refine WL.buildL (E := intE) (l := [cmpZ (awayZ (el sites x) home) (awayZ (el sites y) home), cmpZ (el sites x) (el sites y), cmpZ (x : Int) (y : Int)]) Tryd.elem3 M rfl rfl rfl rfl rfl rfl ?_
  intro g1_37 w M
  refine DG.go (G := fun j => [0, 1, 2, 3, 5, 6, 7, 8, 9, 10, 11, 12, 14, 15, 16, 17, 18, 19, 20, 21, 22, 24, 25, 26, 27, 28, 29, 31, 32].contains j) (i := 37) (f' := 2) (done := [4, 13, 23, 30, 34, 35, 0, 1, 2, 3, 5, 6, 7, 9, 10, 11, 12, 14, 15, 16, 19, 20, 21, 22, 24, 25, 26, 27, 28, 29, 31, 32, 8, 17, 18, 33, 36]) (fun h => by cases h) ?_
  refine DG.step 38 1 rfl (by kernel_rfl) ?_
  refine WL.call Tryd.call34 rfl (Or_ok (M.rdL (by first | ((repeat (first | with_reducible exact Has.here | with_reducible refine Has.there ?_)); done) | (repeat (first | exact Has.here | refine Has.there ?_))))) rfl ?_
  rintro _ w ⟨rfl, m⟩
  replace M := M.call0 m; clear m
  refine DG.go (G := fun j => [0, 1, 2, 3, 5, 6, 7, 8, 9, 10, 11, 12, 14, 15, 16, 17, 18, 19, 20, 21, 22, 24, 25, 26, 27, 28, 29, 31, 32].contains j) (i := 38) (f' := 1) (done := [4, 13, 23, 30, 34, 35, 0, 1, 2, 3, 5, 6, 7, 9, 10, 11, 12, 14, 15, 16, 19, 20, 21, 22, 24, 25, 26, 27, 28, 29, 31, 32, 8, 17, 18, 33, 36, 37]) (fun h => by cases h) ?_
  apply DG.pure_ [39] 0 rfl (by kernel_rfl) (by kernel_rfl)
  · intro w
    refine WL.assign rfl rfl ?_
    exact Chain.end_ rfl
  refine DG.end_ (by kernel_rfl) ?_
  refine WX.next ?_
  refine W.sub [(6, _)] (.cons rfl .nil) ?_
  refine W.ret ?_
  refine WX.ret1 rfl rfl ?_
  exact ⟨by rw [ex, ey]; rfl, M.sel (by first | ((repeat (first | with_reducible exact Sel.refl | with_reducible exact Sel.nil | with_reducible exact Del.here | with_reducible apply Del.there | with_reducible apply Sel.cons | with_reducible apply Sel.drop)); done) | (repeat (first | exact Sel.refl | exact Sel.nil | exact Del.here | apply Del.there | apply Sel.cons | apply Sel.drop)))⟩
end Go.Proofs.YtmkhggfcgblefaaDoor
