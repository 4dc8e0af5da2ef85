/-
  Rules, laws and walks, part 8 of 11.
-/
import Derived.Test.YtlminileigfkcaaGreatFarG
namespace Go.Proofs.YtlminileigfkcaaGreat
open Go Go.RowKit Crc Bin
theorem framesB_take_le (l : List (List UInt8)) : ∀ j, (framesB (l.take j)).length ≤ (framesB l).length := by
 intro j
 conv => rhs; rw [← List.take_append_drop j l]
 unfold framesB
 rw [List.flatMap_append, List.length_append]
 omega
set_option maxHeartbeats 4000000 in
set_option maxRecDepth 10000 in
theorem walReset_ok (x : WaX) (k : DkX) (hx : x.ok) (hk : k.d.ok) (hgd : x.gd = k.g) (hsz : 2 + 2 * x.h ≤ k.d.safe.length) (hwa : k.d.waits.length ≤ 90000) (ys : List OX) (A : Option Addr) (cap : Nat) (hyl : ys.length ≤ 1000) (hy0 : 0 < ys.length) (hyb : ∀ y ∈ ys, y.l.length ≤ 1000000)
 (w0 w : World) (L L1 L2 : List Asr) (M : Mem w0 w L) (hd1 : Del x.O L L1) (hd2 : Del k.O L1 L2) (hr : RdLH w0 L2 oxE A cap ys) (hy : ∀ y ∈ ys, RdH w0 L2 y.A y.cap y.l) :
 Fn Tryz.prog 111 [.pointer (some ⟨x.g, 0, none⟩), .slice A ys.length cap] w fun v w' => v = .int .i64 ((resetW x.h x.s k.d (ys.map OX.l)).1 : Int) ∧ ∃ (x' : WaX) (k' : DkX), x'.g = x.g ∧ x'.gd = x.gd ∧ x'.h = x.h ∧ x'.s = (resetW x.h x.s k.d (ys.map OX.l)).2.1 ∧ x'.ok ∧ k'.g = k.g ∧ k'.d = (resetW x.h x.s k.d (ys.map OX.l)).2.2 ∧ k'.d.ok ∧ k'.d.safe.length = k.d.safe.length ∧ k'.d.waits.length ≤ k.d.waits.length + 1100 ∧
  Mem w0 w' (x'.O :: k'.O :: L2) := by
 have M1 := ((M.del hd1).perm (List.Perm.cons _ hd2.perm)).unstar4
 clear M
 have M := M1
 obtain ⟨⟨hlo, hhi, hfits, hshort, hep, hn⟩, hxs⟩ := hx
 obtain ⟨g, gd, h, ga, ca, Al, cl, xs, s⟩ := x
 dsimp only at *
 subst hgd
 obtain ⟨e, l, n, dead⟩ := s
 unfold usedW at hfits M
 dsimp only at *
 obtain ⟨u, hu⟩ : ∃ u, u = (framesB l).length := ⟨_, rfl⟩
 obtain ⟨ls, hls⟩ : ∃ ls, ls = ys.map OX.l := ⟨_, rfl⟩
 have hlsl : ls.length = ys.length := by rw [hls, List.length_map]
 have hal : (areaB h l).length = 32 * h := areaB_length hfits
 rw [← hu] at hfits M
 have hxl : xs.length = l.length := by have := congrArg List.length hxs; simpa using this
 have hfew := framesB_few l hshort
 rw [← hu] at hfew
 rw [← hls]
 obtain ⟨ti0, ti, tz, ts, tb⟩ := info_parts (P := Tryz.prog) (e := 5) (z := .int .u8 0) (size := 1) (bytes := 1) (by kernel_rfl)
 refine Fn.enter Tryz.func111 rfl Tryz.ntmps111 rfl (W.sub [(0, _), (1, _)] (.cons rfl (.cons rfl .nil)) (W.seq (W.region (WL.assign rfl rfl (WL.nil (WX.next (W.sub [(0, _), (1, _)] (.cons rfl (.cons rfl .nil)) (W.seq (W.seq (W.region (WL.move rfl rfl (WL.call Tryz.call53 rfl (walReady_ok w0 w _ _ k M Del.a Has.a) rfl ?_))))))))))))
 rintro _ w ⟨rfl, M⟩
 refine WL.assign rfl rfl (WL.nil (WX.next (W.sub [(0, _), (1, _), (5, _)] (.cons rfl (.cons rfl (.cons rfl .nil))) (W.seq (W.region (WL.move rfl rfl (WL.neI rfl rfl rfl (WL.nil (WX.next (W.sub [(0, _), (1, _), (5, _), (15, _)] (.cons rfl (.cons rfl (.cons rfl (.cons rfl .nil)))) (W.ite rfl (fun c0 => ?_) (fun c0 => ?_))))))))))))
 ·refine W.seq (W.region (WL.move rfl rfl (WL.assign rfl rfl (WL.nil (WX.next (W.sub [(4, _)] (.cons rfl .nil) (W.ret (WX.thenRet (WX.ret1 rfl rfl ?_)))))))))
  have hdd := sixI c0
  rw [hdd] at M
  have hor : dead = true ∨ k.d.down = true := by simpa using hdd
  have e1 : resetW h ⟨e, l, n, dead⟩ k.d ls = (6, ⟨e, l, n, true⟩, k.d) := by unfold resetW; rw [if_pos hor]
  rw [e1, hdd]
  refine ⟨rfl, ⟨g, k.g, h, ga, ca, Al, cl, xs, ⟨e, l, n, true⟩⟩, k, rfl, rfl, rfl, rfl, ⟨⟨hlo, hhi, by unfold usedW; dsimp only; omega, hshort, hep, hn⟩, hxs⟩, rfl, rfl, hk, rfl, by omega, ?_⟩
  unfold WaX.O usedW
  dsimp only
  rw [← hu]
  exact Mem.star4 (M.sel Sel.a)
 ·have hdd := sixN c0
  rw [hdd] at M
  obtain ⟨hd, hdn⟩ : dead = false ∧ k.d.down = false := by simpa using hdd
  rw [hd]
  have hno : ¬ ((false : Bool) = true ∨ k.d.down = true) := by rw [hdn]; simp
  have hkeep : ∀ w, Mem w0 w (waRow g k.g e h ga ca Al xs.length cl n u false :: Asr.own 5 1 (some ⟨ga, 0, none⟩) (areaB h l).length ca (bs (areaB h l)) :: Asr.lst oxE Al cl xs :: Asr.star (xs.map OX.O) :: k.O :: L2) → ∃ (x' : WaX) (k' : DkX), x'.g = g ∧ x'.gd = k.g ∧ x'.h = h ∧ x'.s = ⟨e, l, n, false⟩ ∧ x'.ok ∧ k'.g = k.g ∧ k'.d = k.d ∧ k'.d.ok ∧ k'.d.safe.length = k.d.safe.length ∧ k'.d.waits.length ≤ k.d.waits.length + 1100 ∧ Mem w0 w (x'.O :: k'.O :: L2) := by
   intro w M
   refine ⟨⟨g, k.g, h, ga, ca, Al, cl, xs, ⟨e, l, n, false⟩⟩, k, rfl, rfl, rfl, rfl, ⟨⟨hlo, hhi, by unfold usedW; dsimp only; omega, hshort, hep, hn⟩, hxs⟩, rfl, rfl, hk, rfl, by omega, ?_⟩
   unfold WaX.O usedW
   dsimp only
   rw [← hu]
   exact Mem.star4 M
  refine W.skip (WX.next (W.seq (W.region (WL.assign rfl rfl (WL.nil (WX.next (W.sub [(0, _), (1, _), (6, _)] (.cons rfl (.cons rfl (.cons rfl .nil))) (W.seq (W.region (WL.move rfl rfl (WL.nilCheck rfl rfl (WL.loadW Tryz.isAgg131 Tryz.sizeOf131 rfl M Has.a rfl rfl (WL.alloc Tryz.zeroValue131 M rfl ?_)))))))))))))
  intro g5_3 w M
  try simp only [Value.cells] at M
  try simp only [List.toList_toArray] at M
  refine WL.storeWA Tryz.sizeOf131 rfl rfl (by repeat (first | exact oneNil | refine oneCons rfl ?_)) rfl rfl M Upd.a ?_
  intro w M
  refine WL.nil (WX.next (W.sub [(0, _), (1, _), (6, _), (7, _)] (.cons rfl (.cons rfl (.cons rfl (.cons rfl .nil)))) (W.seq (W.region (WL.move rfl rfl (WL.nilCheck rfl rfl (WL.fieldR (off := 1) Tryz.underlying131 rfl rfl Tryz.sizeOf47 rfl rfl rfl ?_)))))))
  refine WL.loadR Tryz.isAgg47 rfl M Has.a rfl rfl (WL.add rfl rfl (by first | exact wU64 (by omega) | exact mU64 _ | rfl) rfl ?_)
  refine WL.move rfl rfl (WL.len Tryz.underlying82 rfl rfl (WL.fieldR (off := 1) Tryz.underlying131 rfl rfl Tryz.sizeOf47 rfl rfl rfl ?_))
  refine WL.storeR Tryz.sizeOf47 rfl rfl rfl M Has.a (by repeat (first | exact SetAt.zero | apply SetAt.succ)) Upd.a ?_
  intro w M
  refine WL.fieldR (off := 4) Tryz.underlying131 rfl rfl Tryz.sizeOf82 rfl rfl rfl ?_
  refine WL.storeR Tryz.sizeOf82 rfl rfl rfl M Has.a (by repeat (first | exact SetAt.zero | apply SetAt.succ)) Upd.a ?_
  intro w M
  refine WL.fieldR (off := 5) Tryz.underlying131 rfl rfl Tryz.sizeOf3 rfl rfl rfl ?_
  refine WL.storeR Tryz.sizeOf3 rfl rfl rfl M Has.a (by repeat (first | exact SetAt.zero | apply SetAt.succ)) Upd.a ?_
  intro w M
  refine WL.nil (WX.next (W.sub [(0, _), (1, _), (6, _), (7, _)] (.cons rfl (.cons rfl (.cons rfl (.cons rfl .nil)))) (W.seq (W.seq (W.region (WL.move rfl rfl (WL.len Tryz.underlying82 rfl rfl (WL.move rfl rfl (WL.nil (WX.next (W.sub [(0, _), (1, _), (6, _), (7, _), (30, _), (31, _), (32, _)] (.cons rfl (.cons rfl (.cons rfl (.cons rfl (.cons rfl (.cons rfl (.cons rfl .nil))))))) (W.block (W.loop (ι := Nat × (Option Addr × Nat × List UInt8) × (Option Addr × Nat × List OX)) (fun z => [(0, .pointer (some ⟨g, 0, none⟩)), (1, .slice A ys.length cap), (6, .slice z.2.1.1 z.2.1.2.2.length z.2.1.2.1), (7, .pointer (some ⟨g5_3, 0, none⟩)), (30, .slice A ys.length cap), (31, .int .i64 (ys.length : Int)), (32, .int .i64 (z.1 : Int))]) (fun zz w => Mem w0 w ((fun z => Asr.row g5_3 131 [.pointer (some ⟨k.g, 0, none⟩), .int .u64 ((e + 1 : Nat) : Int), .int .i64 (h : Int), .slice (some ⟨ga, 0, none⟩) (32 * h) ca, .slice z.2.2.1 z.2.2.2.2.length z.2.2.2.1, .int .i64 (ys.length : Int), .int .i64 (u : Int), .bool false] :: Asr.own 5 1 z.2.1.1 z.2.1.2.2.length z.2.1.2.1 (bs z.2.1.2.2) :: Asr.lst oxE z.2.2.1 z.2.2.2.1 z.2.2.2.2 :: Asr.star (z.2.2.2.2.map OX.O) :: waRow g k.g e h ga ca Al xs.length cl n u false :: Asr.own 5 1 (some ⟨ga, 0, none⟩) (areaB h l).length ca (bs (areaB h l)) :: Asr.lst oxE Al cl xs :: Asr.star (xs.map OX.O) :: k.O :: L2) zz) ∧ (fun z => z.1 ≤ ys.length ∧ z.2.1.2.2 = framesB (ls.take z.1) ∧ z.2.2.2.2.map OX.l = ls.take z.1 ∧ z.2.1.2.2.length ≤ 32 * h ∧ (∀ j, j < z.1 → (el ys j).l.length ≤ 1024)) zz) (fun z => ys.length - z.1) ((0, (none, 0, []), (none, 0, []))) envSub.sf ⟨(((Mem.nilOwn (Mem.starNil M) 84 1).nilOwn 5 1).sel Sel.a), ⟨Nat.zero_le _, by simp [framesB], by simp, by simp, fun j hj => absurd hj (Nat.not_lt_zero _)⟩⟩ ?_)))))))))))))
  clear M; rintro (⟨i, ⟨Ab, cb, b⟩, ⟨An, cn, zs⟩⟩) w ⟨M, ⟨hi, hbb, hzs, hbl, hsh⟩⟩; dsimp only at M hi hbb hzs hbl hsh ⊢
  refine W.sub [(0, _), (1, _), (6, _), (7, _), (30, _), (31, _), (32, _)] (.cons rfl (.cons rfl (.cons rfl (.cons rfl (.cons rfl (.cons rfl (.cons rfl .nil))))))) (W.seq (W.region (WL.lss rfl rfl rfl (WL.nil (WX.next (W.sub [(0, _), (1, _), (6, _), (7, _), (30, _), (31, _), (32, _), (33, _)] (.cons rfl (.cons rfl (.cons rfl (.cons rfl (.cons rfl (.cons rfl (.cons rfl (.cons rfl .nil)))))))) (W.seq (W.ite rfl (fun c1 => ?_) (fun c1 => ?_)))))))))
  ·have hil : i < ys.length := by omega
   have hyi := hyb _ (el_mem hil)
   have hzl : zs.length = i := by have := congrArg List.length hzs; rw [List.length_map, List.length_take, hlsl] at this; omega
   have htk : ls.take (i + 1) = ls.take i ++ [(el ys i).l] := by
    rw [List.take_succ_eq_append_getElem (by omega)]
    congr 2
    rw [show ls[i]'(by omega) = el ls i by simp [el, show i < ls.length by omega]]
    rw [hls]
    simp [el, hil]
   refine W.skip (WX.next (W.seq (W.block (W.seq (W.region (WL.idxA Tryz.underlying82 Tryz.sizeOf84 rfl rfl (RdL.isSome (E := oxE) (by first | with_reducible assumption | with_reducible exact RdL.mem (by with_reducible assumption) M | exact M.rdL Has.a | exact RdLH.at (by assumption) (M.sel Sel.a) | exact RdL.nil _ _ _) (by omega)) (by omega) (by omega) (by first | exact rfl | exact (Int.toNat_of_nonneg (by omega)).symm) rfl ?_))))))
   refine WL.loadE0 (E := oxE) Tryz.isAgg84 rfl (by first | with_reducible assumption | with_reducible exact RdL.mem (by with_reducible assumption) M | exact M.rdL Has.a | exact RdLH.at (by assumption) (M.sel Sel.a) | exact RdL.nil _ _ _) (by omega) rfl rfl ?_
   refine WL.assign rfl rfl (WL.nil (WX.next (W.sub [(0, _), (1, _), (6, _), (7, _), (9, _), (30, _), (31, _), (32, _)] (.cons rfl (.cons rfl (.cons rfl (.cons rfl (.cons rfl (.cons rfl (.cons rfl (.cons rfl .nil)))))))) (W.seq (W.region (WL.move rfl rfl (WL.call Tryz.call107 rfl (Put_ok 2 (el ys i).l (el ys i).A (el ys i).cap _ ((hy _ (el_mem hil)).at (M.sel Sel.a))) rfl ?_)))))))
   rintro _ w ⟨Af, cf, rfl, m⟩
   replace M := M.call1 m; clear m
   refine WL.move rfl rfl (WL.extractL rfl rfl rfl (WL.extractL rfl rfl rfl (WL.assign rfl rfl (WL.assign rfl rfl (WL.nil (WX.next (W.sub [(0, _), (1, _), (6, _), (7, _), (9, _), (10, _), (11, _), (30, _), (31, _), (32, _)] (.cons rfl (.cons rfl (.cons rfl (.cons rfl (.cons rfl (.cons rfl (.cons rfl (.cons rfl (.cons rfl (.cons rfl .nil)))))))))) (W.seq (W.seq (W.region (WL.move rfl rfl (WL.neI rfl rfl rfl (WL.nil (WX.next (W.sub [(0, _), (1, _), (6, _), (7, _), (9, _), (10, _), (11, _), (30, _), (31, _), (32, _), (42, _)] (.cons rfl (.cons rfl (.cons rfl (.cons rfl (.cons rfl (.cons rfl (.cons rfl (.cons rfl (.cons rfl (.cons rfl (.cons rfl .nil))))))))))) (W.ite rfl (fun c2 => ?_) (fun c2 => ?_)))))))))))))))))
   ·have hbig : 1024 < (el ys i).l.length := by unfold putE at c2; split at c2 <;> omega
    refine W.seq (W.region (WL.move rfl rfl (WL.assign rfl rfl (WL.nil (WX.next (W.sub [(4, _)] (.cons rfl .nil) (W.ret (WX.thenRet (WX.blockRet (WX.thenRet (WX.thenRet (WX.blockRet (WX.thenRet (WX.ret1 rfl rfl ?_))))))))))))))
    have hex : ∃ y ∈ ls, 1024 < y.length := ⟨(el ys i).l, by rw [hls]; exact List.mem_map.2 ⟨_, el_mem hil, rfl⟩, hbig⟩
    have e1 : resetW h ⟨e, l, n, false⟩ k.d ls = (3, ⟨e, l, n, false⟩, k.d) := by unfold resetW; rw [if_neg hno, if_pos hex]
    have e2 : putE (el ys i).l = 3 := by unfold putE; rw [if_pos hbig]
    rw [e1, e2]
    exact ⟨rfl, hkeep _ (M.sel Sel.a)⟩
   ·have hsm : (el ys i).l.length ≤ 1024 := by unfold putE at c2; split at c2 <;> omega
    have hpl := putG_length (k := 2) hsm
    have hb2 : b ++ putG 2 (el ys i).l = framesB (ls.take (i + 1)) := by rw [htk, framesB_snoc, hbb]
    have hb2l : (b ++ putG 2 (el ys i).l).length = b.length + ((el ys i).l.length + 10) := by rw [List.length_append, hpl]
    refine W.skip (WX.next (W.seq (W.seq (W.region (WL.move rfl rfl (WL.move rfl rfl ?_))))))
    refine WL.appendBH Tryz.elem5 rfl rfl M Del.a (by first | first | with_reducible assumption | with_reducible exact RdB.mem (by with_reducible assumption) M | exact M.rdB Has.a | exact RdH.at (by assumption) (M.sel Sel.a) | exact M.rdLit' Has.a | exact M.rdLent Has.a | exact RdB.nil _ _ | exact RdB.sub (by first | with_reducible assumption | with_reducible exact RdB.mem (by with_reducible assumption) M | exact M.rdB Has.a | exact RdH.at (by assumption) (M.sel Sel.a) | exact M.rdLit' Has.a | exact M.rdLent Has.a | exact RdB.nil _ _) (by omega) (by omega) | exact RdB.pre' (by first | with_reducible assumption | with_reducible exact RdB.mem (by with_reducible assumption) M | exact M.rdB Has.a | exact RdH.at (by assumption) (M.sel Sel.a) | exact M.rdLit' Has.a | exact M.rdLent Has.a | exact RdB.nil _ _) (by omega) | exact RdB.suf (by first | with_reducible assumption | with_reducible exact RdB.mem (by with_reducible assumption) M | exact M.rdB Has.a | exact RdH.at (by assumption) (M.sel Sel.a) | exact M.rdLit' Has.a | exact M.rdLent Has.a | exact RdB.nil _ _) (by omega)) rfl rfl (by first | omega | (simp; done) | (simp; omega)) rfl ?_
    intro A13_2 cap13_2 w M
    refine WL.assign rfl rfl (WL.nil (WX.next (W.sub [(0, _), (1, _), (6, _), (7, _), (9, _), (30, _), (31, _), (32, _)] (.cons rfl (.cons rfl (.cons rfl (.cons rfl (.cons rfl (.cons rfl (.cons rfl (.cons rfl .nil)))))))) (W.seq (W.region (WL.move rfl rfl (WL.len Tryz.underlying84 rfl rfl (WL.move rfl rfl (WL.nilCheck rfl rfl (WL.fieldR (off := 3) Tryz.underlying131 rfl rfl Tryz.sizeOf84 rfl rfl rfl ?_))))))))))
    refine WL.loadR Tryz.isAgg84 rfl M Has.a rfl rfl (WL.len Tryz.underlying84 rfl rfl (WL.gtr rfl rfl rfl (WL.nil (WX.next (W.sub [(0, _), (1, _), (6, _), (7, _), (9, _), (30, _), (31, _), (32, _), (54, _)] (.cons rfl (.cons rfl (.cons rfl (.cons rfl (.cons rfl (.cons rfl (.cons rfl (.cons rfl (.cons rfl .nil))))))))) (W.ite rfl (fun c3 => ?_) (fun c3 => ?_)))))))
    ·refine W.seq (W.region (WL.move rfl rfl (WL.move rfl rfl (WL.call Tryz.call128 rfl (walFull_ok _ (hr.at (M.sel Sel.a)) (by omega) hyb _) rfl ?_))))
     rintro _ w ⟨rfl, m⟩
     replace M := M.call0 m; clear m
     refine WL.assign rfl rfl (WL.nil (WX.next (W.sub [(4, _)] (.cons rfl .nil) (W.ret (WX.thenRet (WX.blockRet (WX.thenRet (WX.thenRet (WX.blockRet (WX.thenRet (WX.ret1 rfl rfl ?_)))))))))))
     have hlt : 32 * h < (framesB ls).length := by
      have := framesB_take_le ls (i + 1)
      rw [← hb2] at this
      omega
     have e1 : resetW h ⟨e, l, n, false⟩ k.d ls = ((if ∃ y ∈ ls, 1024 < y.length then 3 else 5), ⟨e, l, n, false⟩, k.d) := by
      unfold resetW
      rw [if_neg hno]
      by_cases hex : ∃ y ∈ ls, 1024 < y.length
      ·rw [if_pos hex, if_pos hex]
      ·rw [if_neg hex, if_neg hex, if_pos (.inl hlt)]
     rw [e1]
     rw [hls]
     refine ⟨?_, hkeep _ (M.sel Sel.a)⟩
     split <;> rfl
    ·refine W.skip (WX.next (W.drawM ([Asr.row g5_3 131 [.pointer (some ⟨k.g, 0, none⟩), .int .u64 ((e + 1 : Nat) : Int), .int .i64 (h : Int), .slice (some ⟨ga, 0, none⟩) (32 * h) ca, .slice An zs.length cn, .int .i64 (ys.length : Int), .int .i64 (u : Int), .bool false]]) (by kernel_rfl) (fun j => [2, 4, 5].contains j) M Sel.a ?_))
     clear M; intro M
     apply DG.pure_ [0, 3] 7 rfl (by kernel_rfl) (by kernel_rfl)
     ·intro w
      refine WL.fieldR (off := 4) Tryz.underlying131 rfl rfl Tryz.sizeOf82 rfl rfl rfl ?_
      refine WL.move rfl rfl ?_
      exact Chain.end_ rfl
     apply DG.take [1] 6 rfl (by kernel_rfl) (by kernel_rfl) (M.sel Sel.a)
     ·intro w M
      refine WL.loadR Tryz.isAgg82 rfl M Has.a rfl rfl ?_
      exact Chain.end_ rfl
     refine DG.step 2 5 rfl (by kernel_rfl) ?_
     refine WL.buildB (es := []) Tryz.elem5 M rfl rfl (by exact BytesOf.nil) (by rfl) rfl rfl ?_
     intro g16_2 w M
     refine DG.go (G := fun j => [2, 4, 5].contains j) (i := 2) (f' := 5) (done := [0, 3, 1]) (fun _ => M.sel Sel.a) ?_
     refine DG.step 4 4 rfl (by kernel_rfl) ?_
     refine WL.appendBN Tryz.elem5 rfl rfl M Del.a ((hy _ (el_mem hil)).at (M.sel Sel.a)) rfl rfl (by first | omega | (simp; done) | (simp; omega)) rfl ?_
     intro A16_4 cap16_4 w M
     refine DG.go (G := fun j => [2, 4, 5].contains j) (i := 4) (f' := 4) (done := [0, 3, 1, 2]) (fun _ => M.sel Sel.a) ?_
     refine DG.step 5 3 rfl (by kernel_rfl) ?_
     refine WL.buildL (E := oxE) (l := [(⟨A16_4, cap16_4, (el ys i).l⟩ : OX)]) Tryz.elem84 M rfl rfl rfl rfl rfl rfl ?_
     intro g16_5 w M
     refine DG.go (G := fun j => [2, 4, 5].contains j) (i := 5) (f' := 3) (done := [0, 3, 1, 2, 4]) (fun _ => M.sel Sel.a) ?_
     refine DG.step 6 2 rfl (by kernel_rfl) ?_
     refine WL.appendL (E := oxE) Tryz.elem84 rfl rfl M Del.a (by first | with_reducible assumption | with_reducible exact RdL.mem (by with_reducible assumption) M | exact M.rdL Has.a | exact RdLH.at (by assumption) (M.sel Sel.a) | exact RdL.nil _ _ _) rfl rfl (by first | omega | (simp; done) | (simp; omega)) (by first | (simp only [maxLen]; omega) | (simp [maxLen]; done) | (simp [maxLen]; omega)) rfl ?_
     intro A16_6 cap16_6 w M
     refine DG.go (G := fun j => [2, 4, 5].contains j) (i := 6) (f' := 2) (done := [0, 3, 1, 2, 4, 5]) (fun h => by cases h) ?_
     apply DG.pure_ [7] 1 rfl (by kernel_rfl) (by kernel_rfl)
     ·intro w
      refine WL.fieldR (off := 4) Tryz.underlying131 rfl rfl Tryz.sizeOf82 rfl rfl rfl ?_
      exact Chain.end_ rfl
     refine DG.step 8 0 rfl (by kernel_rfl) ?_
     refine WL.storeR Tryz.sizeOf82 rfl rfl rfl M Has.a (by repeat (first | exact SetAt.zero | apply SetAt.succ)) Upd.a ?_
     intro w M
     refine DG.go (G := fun j => [2, 4, 5].contains j) (i := 8) (f' := 0) (done := [0, 3, 1, 2, 4, 5, 6, 7]) (fun h => by cases h) ?_
     refine DG.end_ (by kernel_rfl) ?_
     refine WX.blockNormal (WX.next (W.sub [(0, _), (1, _), (6, _), (7, _), (30, _), (31, _), (32, _)] (.cons rfl (.cons rfl (.cons rfl (.cons rfl (.cons rfl (.cons rfl (.cons rfl .nil))))))) (W.region (WL.add rfl rfl (by first | exact wI64 (by omega) | rfl) rfl ?_))))
     refine WL.move rfl rfl (WL.nil ?_)
     skip
     have q : (zs ++ [(⟨A16_4, cap16_4, (el ys i).l⟩ : OX)]).map OX.l = ls.take (i + 1) := by rw [htk, List.map_append, hzs]; rfl
     have q2 : ∀ j, j < i + 1 → (el ys j).l.length ≤ 1024 := by
      intro j hj
      rcases Nat.lt_or_ge j i with h1 | h1
      ·exact hsh j h1
      ·obtain rfl : j = i := by omega
       exact hsm
     have M2 : Mem w0 w (Asr.star ((zs ++ [(⟨A16_4, cap16_4, (el ys i).l⟩ : OX)]).map OX.O) :: Asr.row g5_3 131 [.pointer (some ⟨k.g, 0, none⟩), .int .u64 ((e + 1 : Nat) : Int), .int .i64 (h : Int), .slice (some ⟨ga, 0, none⟩) (32 * h) ca, .slice A16_6 (zs ++ [(⟨A16_4, cap16_4, (el ys i).l⟩ : OX)]).length cap16_6, .int .i64 (ys.length : Int), .int .i64 (u : Int), .bool false] :: Asr.own 5 1 A13_2 (b ++ putG 2 (el ys i).l).length cap13_2 (bs (b ++ putG 2 (el ys i).l)) :: Asr.lst oxE A16_6 cap16_6 (zs ++ [(⟨A16_4, cap16_4, (el ys i).l⟩ : OX)]) :: waRow g k.g e h ga ca Al xs.length cl n u false :: Asr.own 5 1 (some ⟨ga, 0, none⟩) (areaB h l).length ca (bs (areaB h l)) :: Asr.lst oxE Al cl xs :: Asr.star (xs.map OX.O) :: k.O :: L2) := by
      rw [List.map_append]
      refine Mem.starSnoc ?_
      exact M.sel Sel.a
     replace M := M2
     refine WX.round ((i + 1, (A13_2, cap13_2, b ++ putG 2 (el ys i).l), (A16_6, cap16_6, zs ++ [(⟨A16_4, cap16_4, (el ys i).l⟩ : OX)]))) envSub.sf ⟨M.sel Sel.a, ⟨by dsimp only; omega, hb2, q, by dsimp only; omega, q2⟩⟩ (by first | omega | (dsimp only; omega))
  ·obtain rfl : i = ys.length := by omega
   rw [List.take_of_length_le (by omega)] at hbb hzs
   have hnx : ¬ ∃ y ∈ ls, 1024 < y.length := by
    rintro ⟨y, hym, hlt⟩
    rw [hls] at hym
    obtain ⟨z, hz, rfl⟩ := List.mem_map.1 hym
    obtain ⟨j, hj, e⟩ := List.getElem_of_mem hz
    have := hsh j hj
    rw [show el ys j = z by rw [← e]; simp [el, hj]] at this
    omega
   have hshort2 : ∀ y ∈ ls, y.length ≤ 1024 := fun y hym => by
    rcases Nat.lt_or_ge 1024 y.length with h1 | h1
    ·exact absurd ⟨y, hym, h1⟩ hnx
    ·exact h1
   have hfew2 := framesB_few ls hshort2
   rw [← hbb] at hfew2
   refine W.exit (WX.thenExit (WX.thenExit (WX.blockHere (WX.next (W.seq (W.seq (W.region (WL.fieldR (off := 1) Tryz.underlying131 rfl rfl Tryz.sizeOf47 rfl rfl rfl ?_))))))))
   refine WL.loadR Tryz.isAgg47 rfl M Has.a rfl rfl (WL.eqI rfl rfl rfl (WL.nil (WX.next (W.sub [(0, _), (6, _), (7, _), (69, _)] (.cons rfl (.cons rfl (.cons rfl (.cons rfl .nil)))) (W.ite rfl (fun c4 => ?_) (fun c4 => ?_))))))
   ·refine W.seq (W.region (WL.assign rfl rfl (WL.nil (WX.next (W.sub [(4, _)] (.cons rfl .nil) (W.ret (WX.thenRet (WX.ret1 rfl rfl ?_))))))))
    have e1 : resetW h ⟨e, l, n, false⟩ k.d ls = (5, ⟨e, l, n, false⟩, k.d) := by unfold resetW; rw [if_neg hno, if_neg hnx, if_pos (.inr (by dsimp only; omega))]
    rw [e1]
    exact ⟨rfl, hkeep _ (M.sel Sel.a)⟩
   ·refine W.skip (WX.next (W.seq (W.region (WL.move rfl rfl (WL.len Tryz.underlying84 rfl rfl (WL.fieldR (off := 6) Tryz.underlying131 rfl rfl Tryz.sizeOf3 rfl rfl rfl ?_))))))
    refine WL.storeR Tryz.sizeOf3 rfl rfl rfl M Has.a (by repeat (first | exact SetAt.zero | apply SetAt.succ)) Upd.a ?_
    intro w M
    refine WL.nil (WX.next (W.sub [(0, _), (6, _), (7, _)] (.cons rfl (.cons rfl (.cons rfl .nil))) (W.seq (W.region (WL.move rfl rfl (WL.move rfl rfl (WL.nilCheck rfl rfl (WL.fieldR (off := 3) Tryz.underlying131 rfl rfl Tryz.sizeOf84 rfl rfl rfl ?_))))))))
    refine WL.loadR Tryz.isAgg84 rfl M Has.a rfl rfl (WL.len Tryz.underlying84 rfl rfl (WL.move rfl rfl (WL.len Tryz.underlying84 rfl rfl (WL.sub' rfl rfl (by first | exact wI64 (by omega) | rfl) rfl ?_))))
    refine WL.appendZ (k := 32 * h - b.length) Tryz.underlying84 Tryz.underlying3 ti tz ts tb rfl rfl M Del.a rfl (by omega) (by omega) (by omega) rfl ?_
    intro A9 c9 w M
    have hnew : b ++ List.replicate (32 * h - b.length) 0 = areaB h ls := by unfold areaB; rw [← hbb]
    have hall : (areaB h ls).length = 32 * h := areaB_length (by rw [← hbb]; omega)
    rw [hnew] at M ⊢
    obtain ⟨g9, rfl⟩ := M.ownSome (A := A9) (n := (areaB h ls).length) Has.a (by omega)
    rw [hall]
    have hc9 : 32 * h ≤ c9 := by have := (M.rdB (A := some ⟨g9, 0, none⟩) (l := areaB h ls) (cap := c9) Has.a).le; omega
    refine WL.fieldR (off := 3) Tryz.underlying131 rfl rfl Tryz.sizeOf84 rfl rfl rfl ?_
    refine WL.storeR Tryz.sizeOf84 rfl rfl rfl M Has.a (by repeat (first | exact SetAt.zero | apply SetAt.succ)) Upd.a ?_
    intro w M
    refine WL.nil (WX.next (W.sub [(0, _), (7, _)] (.cons rfl (.cons rfl .nil)) (W.seq (W.region (WL.move rfl rfl (WL.move rfl rfl (WL.loadW Tryz.isAgg131 Tryz.sizeOf131 rfl M Has.a rfl rfl ?_)))))))
    refine WL.call Tryz.call129 rfl (walTurn_ok k hk (g := g) (e := e + 1) (h := h) (ga := g9) (ca := c9) (m := zs.length) (cl := cn) (n := ys.length) (u := b.length) (Al := An) (dd := false) rfl ls hlo hhi (by rw [← hbb]; omega) hc9 (by omega) hsz hwa w0 w _ _ _ M Del.a Del.a (by intro w M; exact M.rdB Has.a)) rfl ?_
    rintro _ w ⟨rfl, k2, q1, q2, q3, q4, q5, M⟩
    obtain ⟨e', ga', ca', Al', m', cl', n', u', hrow, hz1, hz2⟩ : ∃ e' ga' ca' Al' m' cl' n' u', (if (turnW h (e + 1) ls k.d).1 = 0 then waCells k.g (e + 1) h g9 c9 An zs.length cn ys.length b.length false else [.pointer (some ⟨k.g, 0, none⟩), .int .u64 (e : Int), .int .i64 (h : Int), .slice (some ⟨ga, 0, none⟩) (32 * h) ca, .slice Al xs.length cl, .int .i64 (n : Int), .int .i64 (u : Int), .bool false]) = waCells k.g e' h ga' ca' Al' m' cl' n' u' false ∧ ((turnW h (e + 1) ls k.d).1 = 0 → e' = e + 1 ∧ ga' = g9 ∧ ca' = c9 ∧ Al' = An ∧ m' = zs.length ∧ cl' = cn ∧ n' = ys.length ∧ u' = b.length) ∧ ((turnW h (e + 1) ls k.d).1 ≠ 0 → e' = e ∧ ga' = ga ∧ ca' = ca ∧ Al' = Al ∧ m' = xs.length ∧ cl' = cl ∧ n' = n ∧ u' = u) := by
     by_cases hz : (turnW h (e + 1) ls k.d).1 = 0
     ·exact ⟨e + 1, g9, c9, An, zs.length, cn, ys.length, b.length, by rw [if_pos hz], fun _ => ⟨rfl, rfl, rfl, rfl, rfl, rfl, rfl, rfl⟩, fun h => absurd hz h⟩
     ·exact ⟨e, ga, ca, Al, xs.length, cl, n, u, by rw [if_neg hz]; rfl, fun h => absurd h hz, fun _ => ⟨rfl, rfl, rfl, rfl, rfl, rfl, rfl, rfl⟩⟩
    rw [hrow] at M
    unfold waCells at M
    refine WL.call Tryz.call109 rfl (walFails_ok (gd := k.g) (e := e') (h := h) (ga := ga') (ca := ca') (Al := Al') (m := m') (cl := cl') (n := n') (used := u') (dead := false) w0 w _ _ _ M Del.a) rfl ?_
    rintro _ w ⟨rfl, M⟩
    refine WL.assign rfl rfl (WL.nil (WX.next (W.sub [(4, _)] (.cons rfl .nil) (W.ret (WX.ret1 rfl rfl ?_)))))
    by_cases hz : (turnW h (e + 1) ls k.d).1 = 0
    ·obtain ⟨rfl, rfl, rfl, rfl, rfl, rfl, rfl, rfl⟩ := hz1 hz
     have e1 : resetW h ⟨e, l, n, false⟩ k.d ls = (0, ⟨e + 1, ls, ls.length, false⟩, (turnW h (e + 1) ls k.d).2) := by
      unfold resetW
      rw [if_neg hno, if_neg hnx, if_neg (by rw [← hbb]; dsimp only; omega), if_neg (by simpa using hz)]
     rw [e1, hz]
     rw [decide_eq_false (by simpa using hz), Bool.or_false] at M
     refine ⟨rfl, ⟨g, k.g, h, ga', ca', Al', cl', zs, ⟨e + 1, ls, ls.length, false⟩⟩, k2, rfl, rfl, rfl, rfl, ⟨⟨hlo, hhi, by unfold usedW; dsimp only; rw [← hbb]; omega, hshort2, by dsimp only; omega, Nat.le_refl _⟩, hzs⟩, q1, q2, q3, q4, q5, ?_⟩
     unfold WaX.O usedW
     dsimp only
     rw [← hbb, hlsl]
     exact Mem.star4 (M.sel Sel.a)
    ·obtain ⟨a1, a2, a3, a4, a5, a6, a7, a8⟩ := hz2 hz
     rw [a1, a2, a3, a4, a5, a6, a7, a8] at M
     have e1 : resetW h ⟨e, l, n, false⟩ k.d ls = ((turnW h (e + 1) ls k.d).1, ⟨e, l, n, true⟩, (turnW h (e + 1) ls k.d).2) := by
      unfold resetW
      rw [if_neg hno, if_neg hnx, if_neg (by rw [← hbb]; dsimp only; omega), if_pos hz]
     rw [e1]
     rw [decide_eq_true hz, Bool.or_true] at M
     refine ⟨rfl, ⟨g, k.g, h, ga, ca, Al, cl, xs, ⟨e, l, n, true⟩⟩, k2, rfl, rfl, rfl, rfl, ⟨⟨hlo, hhi, by unfold usedW; dsimp only; omega, hshort, by dsimp only; omega, hn⟩, hxs⟩, q1, q2, q3, q4, q5, ?_⟩
     unfold WaX.O usedW
     dsimp only
     rw [← hu]
     exact Mem.star4 (M.sel Sel.a)
end Go.Proofs.YtlminileigfkcaaGreat
namespace Go.Proofs.YtlminileigfkcaaGreat
open Go Go.RowKit Go.Lib Crc Bin
abbrev rwRow (g gd e : Nat) (Al : Option Addr) (m cl n : Nat) (dead : Bool) : Asr :=
 Asr.row g 91 [.pointer (some ⟨gd, 0, none⟩), .int .u64 (e : Int), .slice Al m cl, .int .i64 (n : Int), .bool dead]
structure RwX where
 g : Nat
 gd : Nat
 Al : Option Addr
 cl : Nat
 xs : List OX
 s : Wl
def RwX.O (x : RwX) : Asr := Asr.star [rwRow x.g x.gd x.s.epoch x.Al x.xs.length x.cl x.s.n x.s.dead, Asr.lst oxE x.Al x.cl x.xs, Asr.star (x.xs.map OX.O)]
structure RwX.ok (h : Nat) (x : RwX) : Prop where
 s : x.s.ok h
 xs : x.xs.map OX.l = x.s.l
theorem refHalf_ok (k : RdX) (hk : k.d.ok) (w0 w : World) (L : List Asr) (M : Mem w0 w L) (h : Has k.O L) (h2 : 2 ≤ k.d.safe.length) : Fn Tryz.prog 93 [.pointer (some ⟨k.g, 0, none⟩)] w fun v w' => v = .int .i64 (halfD k.d : Int) ∧ w' = w := by
 have hln := hk.len
 obtain ⟨L', hd⟩ := h.del
 have M1 := (M.del hd).unstar3
 clear M
 have M := M1
 refine Fn.enter Tryz.func93 rfl Tryz.ntmps93 rfl (W.sub [(0, _)] (.cons rfl .nil) (W.seq (W.region (WL.assign rfl rfl (WL.nil (WX.next (W.sub [(0, _)] (.cons rfl .nil) (W.seq (W.region (WL.move rfl rfl (WL.nilCheck rfl rfl (WL.fieldR (off := 0) Tryz.underlying74 rfl rfl Tryz.sizeOf71 rfl rfl rfl ?_))))))))))))
 refine WL.loadR Tryz.isAgg71 rfl M Has.a rfl rfl (WL.len Tryz.underlying71 rfl rfl (WL.sub' rfl rfl (by first | exact wI64 (by omega) | rfl) rfl ?_))
 refine WL.quo rfl rfl (by omega) (quoI64 (by omega)) rfl ?_
 refine WL.assign rfl rfl (WL.nil (WX.next (W.sub [(2, _)] (.cons rfl .nil) (W.ret (WX.ret1 rfl rfl ?_)))))
 exact ⟨by congr 1; unfold halfD; omega, rfl⟩
theorem refFirst_ok (k : RdX) (hk : k.d.ok) (w0 w : World) (L : List Asr) (M : Mem w0 w L) (h : Has k.O L) (h2 : 2 ≤ k.d.safe.length) (e : Nat) (he : e < 18446744073709551616) : Fn Tryz.prog 94 [.pointer (some ⟨k.g, 0, none⟩), .int .u64 (e : Int)] w fun v w' => v = .int .i64 (firstN (halfD k.d) e : Int) ∧ w' = w := by
 have hln := hk.len
 have hh : halfD k.d ≤ 100000 := by unfold halfD; omega
 have hmul : e % 2 * halfD k.d ≤ 1 * 100000 := Nat.mul_le_mul (by omega) hh
 refine Fn.enter Tryz.func94 rfl Tryz.ntmps94 rfl (W.sub [(0, _), (1, _)] (.cons rfl (.cons rfl .nil)) (W.seq (W.region (WL.assign rfl rfl (WL.nil (WX.next (W.sub [(0, _), (1, _)] (.cons rfl (.cons rfl .nil)) (W.seq (W.region (WL.move rfl rfl (WL.rem rfl rfl (by omega) (remN (by omega)) rfl ?_)))))))))))
 refine WL.conv Tryz.underlying47 Tryz.underlying3 rfl (by first | exact wI64 (by omega) | rfl) rfl ?_
 refine WL.move rfl rfl (WL.call Tryz.call93 rfl (refHalf_ok k hk w0 w _ M h h2) rfl ?_)
 rintro _ _ ⟨rfl, hw⟩
 rw [hw]; clear hw
 refine WL.mul rfl rfl (show IntKind.i64.wrap ((e : Int) % 2 * (halfD k.d : Int)) = ((e % 2 * halfD k.d : Nat) : Int) by rw [show (e : Int) % 2 * (halfD k.d : Int) = ((e % 2 * halfD k.d : Nat) : Int) by push_cast; rfl]; exact wI64 (by omega)) rfl ?_
 refine WL.add rfl rfl (by first | exact wI64 (by omega) | rfl) rfl ?_
 refine WL.assign rfl rfl (WL.nil (WX.next (W.sub [(4, _)] (.cons rfl .nil) (W.ret (WX.ret1 rfl rfl ?_)))))
 exact ⟨by unfold firstN; push_cast; rfl, rfl⟩
section
variable {g gd e m cl n : Nat} {Al : Option Addr} {dead : Bool} (w0 w : World) (L L' : List Asr)
theorem rwGone_ok (k : RdX) (M : Mem w0 w L) (hd : Del (rwRow g k.g e Al m cl n dead) L L') (hk : Has k.O L') : Fn Tryz.prog 112 [.pointer (some ⟨g, 0, none⟩)] w fun v w' => v = .bool (dead || k.d.down) ∧ Mem w0 w' (rwRow g k.g e Al m cl n (dead || k.d.down) :: L') := by
 have M1 := M.del hd
 clear M
 have M := M1
 have hcell : w.cell? ⟨k.g, 3, none⟩ = some (.bool k.d.down) := by
  obtain ⟨L2, hd2⟩ := hk.del
  have M2 := ((M1.tail).del hd2).unstar3
  exact M2.cellH .here 3
 refine Fn.enter Tryz.func112 rfl Tryz.ntmps112 rfl (W.sub [(0, _)] (.cons rfl .nil) (W.seq (W.region (WL.assign rfl rfl (WL.nil (WX.next (W.sub [(0, _)] (.cons rfl .nil) (W.seq (W.region (WL.move rfl rfl (WL.move rfl rfl (WL.nilCheck rfl rfl (WL.fieldR (off := 4) Tryz.underlying91 rfl rfl Tryz.sizeOf4 rfl rfl rfl ?_)))))))))))))
 refine WL.loadR Tryz.isAgg4 rfl M Has.a rfl rfl (WL.moveIfB rfl rfl (fun c0 => ?_) (fun c0 => ?_))
 ·refine WL.off rfl rfl rfl rfl (WL.off rfl rfl rfl rfl (WL.off rfl rfl rfl rfl (WL.off rfl rfl rfl rfl (WL.off rfl rfl rfl rfl (WL.off rfl rfl rfl rfl (WL.off rfl rfl rfl rfl (WL.pickT rfl rfl rfl (WL.nilCheck rfl rfl (WL.fieldR (off := 4) Tryz.underlying91 rfl rfl Tryz.sizeOf4 rfl rfl rfl ?_)))))))))
  refine WL.storeR Tryz.sizeOf4 rfl rfl rfl M Has.a (by repeat (first | exact SetAt.zero | apply SetAt.succ)) Upd.a ?_
  intro w M
  refine WL.nil (WX.next (W.sub [(0, _)] (.cons rfl .nil) (W.seq (W.region (WL.move rfl rfl (WL.nilCheck rfl rfl (WL.fieldR (off := 4) Tryz.underlying91 rfl rfl Tryz.sizeOf4 rfl rfl rfl ?_)))))))
  refine WL.loadR Tryz.isAgg4 rfl M Has.a rfl rfl (WL.assign rfl rfl (WL.nil (WX.next (W.sub [(2, _)] (.cons rfl .nil) (W.ret (WX.ret1 rfl rfl ?_))))))
  have M9 := M
  rw [c0, Bool.true_or]
  exact ⟨rfl, M9.sel Sel.a⟩
 ·refine WL.on rfl rfl (WL.move rfl rfl (WL.on rfl rfl (WL.nilCheck rfl rfl (WL.on rfl rfl (WL.fieldR (off := 0) Tryz.underlying91 rfl rfl Tryz.sizeOf32 rfl rfl rfl ?_)))))
  refine WL.on rfl rfl (WL.loadR Tryz.isAgg32 rfl M Has.a rfl rfl (WL.on rfl rfl (WL.nilCheck rfl rfl (WL.on rfl rfl (WL.fieldR (off := 3) Tryz.underlying74 rfl rfl Tryz.sizeOf4 rfl rfl rfl ?_)))))
  refine WL.on rfl rfl (WL.load Tryz.isAgg4 rfl hcell rfl (WL.pickF rfl rfl rfl (WL.nilCheck rfl rfl (WL.fieldR (off := 4) Tryz.underlying91 rfl rfl Tryz.sizeOf4 rfl rfl rfl ?_))))
  refine WL.storeR Tryz.sizeOf4 rfl rfl rfl M Has.a (by repeat (first | exact SetAt.zero | apply SetAt.succ)) Upd.a ?_
  intro w M
  refine WL.nil (WX.next (W.sub [(0, _)] (.cons rfl .nil) (W.seq (W.region (WL.move rfl rfl (WL.nilCheck rfl rfl (WL.fieldR (off := 4) Tryz.underlying91 rfl rfl Tryz.sizeOf4 rfl rfl rfl ?_)))))))
  refine WL.loadR Tryz.isAgg4 rfl M Has.a rfl rfl (WL.assign rfl rfl (WL.nil (WX.next (W.sub [(2, _)] (.cons rfl .nil) (W.ret (WX.ret1 rfl rfl ?_))))))
  have hdd : dead = false := by simpa using c0
  rw [hdd, Bool.false_or]
  exact ⟨rfl, M.sel Sel.a⟩
end
def framesE (l : List (List UInt8)) : Nat := if ∃ x ∈ l, 1024 < x.length then 3 else 0
def framesV (l : List (List UInt8)) : List UInt8 := if ∃ x ∈ l, 1024 < x.length then [] else framesB l
set_option maxHeartbeats 1000000 in
set_option maxRecDepth 10000 in
theorem rwFrames_ok {A : Option Addr} {cap : Nat} {xs : List OX} {w0 : World} (hr : RdL w0 oxE A cap xs) (hx : ∀ x ∈ xs, RdB w0 x.A x.cap x.l) (hl : xs.length ≤ 100000) (hb : ∀ x ∈ xs, x.l.length ≤ 1000000) (hf : (framesB (xs.map OX.l)).length ≤ 65536) :
 Fn Tryz.prog 130 [.slice A xs.length cap] w0 fun v w' => ∃ A' c', v = .tuple #[.slice A' (framesV (xs.map OX.l)).length c', .int .i64 (framesE (xs.map OX.l) : Int)] ∧ Mem w0 w' [Asr.own 5 1 A' (framesV (xs.map OX.l)).length c' (bs (framesV (xs.map OX.l)))] := by
 have M := Mem.refl w0
 obtain ⟨w, hw⟩ : ∃ w, w = w0 := ⟨w0, rfl⟩
 obtain ⟨ls, hls⟩ : ∃ ls, ls = xs.map OX.l := ⟨_, rfl⟩
 have hlsl : ls.length = xs.length := by rw [hls, List.length_map]
 rw [← hls] at hf ⊢
 refine Fn.enter Tryz.func130 rfl Tryz.ntmps130 rfl (W.sub [(0, _)] (.cons rfl .nil) (W.seq (W.region (WL.assign rfl rfl (WL.assign rfl rfl (WL.nil (WX.next (W.sub [(0, _)] (.cons rfl .nil) (W.seq (W.region (WL.assign rfl rfl (WL.nil (WX.next (W.sub [(0, _), (4, _)] (.cons rfl (.cons rfl .nil)) (W.seq (W.seq (W.region (WL.assign rfl rfl (WL.nil (WX.next (W.sub [(0, _), (4, _), (5, _)] (.cons rfl (.cons rfl (.cons rfl .nil))) (W.block (W.loop (ι := Nat) (fun i => [(0, .slice A xs.length cap), (4, .slice none 0 0), (5, .int .i64 (i : Int))]) (fun zz w => Mem w0 w ((fun _ => []) zz) ∧ (fun i => i ≤ xs.length ∧ ∀ j, j < i → (el xs j).l.length ≤ 1024) zz) (fun i => xs.length - i) (0) envSub.sf ⟨M.sel Sel.a, ⟨Nat.zero_le _, fun j hj => absurd hj (Nat.not_lt_zero _)⟩⟩ ?_)))))))))))))))))))))))
 clear M; rintro (i) w ⟨M, ⟨hi, hs⟩⟩; dsimp only at M hi hs ⊢
 refine W.sub [(0, _), (4, _), (5, _)] (.cons rfl (.cons rfl (.cons rfl .nil))) (W.seq (W.seq (W.region (WL.move rfl rfl (WL.move rfl rfl (WL.len Tryz.underlying82 rfl rfl (WL.lss rfl rfl rfl (WL.nil (WX.next (W.sub [(0, _), (4, _), (5, _), (12, _)] (.cons rfl (.cons rfl (.cons rfl (.cons rfl .nil)))) (W.ite rfl (fun c0 => ?_) (fun c0 => ?_))))))))))))
 ·have hil : i < xs.length := by omega
  have hbi := hb _ (el_mem hil)
  refine W.skip (WX.next (W.seq (W.block (W.seq (W.region (WL.move rfl rfl (WL.move rfl rfl (WL.idxA Tryz.underlying82 Tryz.sizeOf84 rfl rfl (RdL.isSome (E := oxE) (by first | with_reducible assumption | with_reducible exact RdL.mem (by with_reducible assumption) M | exact M.rdL Has.a | exact RdLH.at (by assumption) (M.sel Sel.a) | exact RdL.nil _ _ _) (by omega)) (by omega) (by omega) (by first | exact rfl | exact (Int.toNat_of_nonneg (by omega)).symm) rfl ?_))))))))
  refine WL.loadE0 (E := oxE) Tryz.isAgg84 rfl (by first | with_reducible assumption | with_reducible exact RdL.mem (by with_reducible assumption) M | exact M.rdL Has.a | exact RdLH.at (by assumption) (M.sel Sel.a) | exact RdL.nil _ _ _) (by omega) rfl rfl ?_
  refine WL.len Tryz.underlying84 rfl rfl (WL.gtr rfl rfl rfl (WL.nil (WX.next (W.sub [(0, _), (4, _), (5, _), (20, _)] (.cons rfl (.cons rfl (.cons rfl (.cons rfl .nil)))) (W.ite rfl (fun c1 => ?_) (fun c1 => ?_))))))
  ·refine W.seq (W.region (WL.assign rfl rfl (WL.assign rfl rfl (WL.nil (WX.next (W.sub [(2, _), (3, _)] (.cons rfl (.cons rfl .nil)) (W.ret (WX.blockRet (WX.thenRet (WX.thenRet (WX.blockRet (WX.thenRet (WX.ret2 rfl rfl rfl ?_)))))))))))))
   have hex : ∃ x ∈ ls, 1024 < x.length := ⟨(el xs i).l, by rw [hls]; exact List.mem_map.2 ⟨_, el_mem hil, rfl⟩, by omega⟩
   unfold framesV framesE
   rw [if_pos hex, if_pos hex]
   exact ⟨none, 0, rfl, M.nilOwn _ _⟩
  ·refine W.skip (WX.blockNormal (WX.next (W.region (WL.move rfl rfl (WL.add rfl rfl (by first | exact wI64 (by omega) | rfl) rfl ?_)))))
   refine WL.assign rfl rfl (WL.nil ?_)
   skip
   have q : ∀ j, j < i + 1 → (el xs j).l.length ≤ 1024 := by
    intro j hj
    rcases Nat.lt_or_ge j i with h1 | h1
    ·exact hs j h1
    ·obtain rfl : j = i := by omega
     omega
   refine WX.round (i + 1) envSub.sf ⟨M.sel Sel.a, ⟨by omega, q⟩⟩ (by first | omega | (dsimp only; omega))
 ·obtain rfl : i = xs.length := by omega
  have hnx : ¬ ∃ x ∈ ls, 1024 < x.length := by
   rintro ⟨y, hym, hlt⟩
   rw [hls] at hym
   obtain ⟨z, hz, rfl⟩ := List.mem_map.1 hym
   obtain ⟨j, hj, e⟩ := List.getElem_of_mem hz
   have := hs j hj
   rw [show el xs j = z by rw [← e]; simp [el, hj]] at this
   omega
  unfold framesV framesE
  rw [if_neg hnx, if_neg hnx]
  refine W.exit (WX.thenExit (WX.thenExit (WX.blockHere (WX.next (W.seq (W.seq (W.region (WL.assign rfl rfl (WL.nil (WX.next (W.sub [(0, _), (4, _), (6, _)] (.cons rfl (.cons rfl (.cons rfl .nil))) (W.block (W.loop (ι := Nat × Option Addr × Nat) (fun z => [(0, .slice A xs.length cap), (4, .slice z.2.1 (framesB (ls.take z.1)).length z.2.2), (6, .int .i64 (z.1 : Int))]) (fun zz w => Mem w0 w ((fun z => [Asr.own 5 1 z.2.1 (framesB (ls.take z.1)).length z.2.2 (bs (framesB (ls.take z.1)))]) zz) ∧ (fun z => z.1 ≤ xs.length) zz) (fun z => xs.length - z.1) ((0, none, 0)) envSub.sf ⟨((M.nilOwn 5 1).sel Sel.a), Nat.zero_le _⟩ ?_)))))))))))))
  clear M; rintro (⟨i, Ab, cb⟩) w ⟨M, hi⟩; dsimp only at M hi ⊢
  refine W.sub [(0, _), (4, _), (6, _)] (.cons rfl (.cons rfl (.cons rfl .nil))) (W.seq (W.seq (W.region (WL.move rfl rfl (WL.move rfl rfl (WL.len Tryz.underlying82 rfl rfl (WL.lss rfl rfl rfl (WL.nil (WX.next (W.sub [(0, _), (4, _), (6, _), (24, _)] (.cons rfl (.cons rfl (.cons rfl (.cons rfl .nil)))) (W.ite rfl (fun c2 => ?_) (fun c2 => ?_))))))))))))
  ·have hil : i < xs.length := by omega
   have hsm := hs _ hil
   have hpl := putG_length (k := 2) hsm
   have htk : ls.take (i + 1) = ls.take i ++ [(el xs i).l] := by
    rw [List.take_succ_eq_append_getElem (by omega)]
    congr 2
    rw [show ls[i]'(by omega) = el ls i by simp [el, show i < ls.length by omega]]
    rw [hls]
    simp [el, hil]
   have hfb : framesB (ls.take (i + 1)) = framesB (ls.take i) ++ putG 2 (el xs i).l := by rw [htk, framesB_snoc]
   have hle := framesB_take_le ls (i + 1)
   have hle2 := framesB_take_le ls i
   refine W.skip (WX.next (W.seq (W.block (W.seq (W.region (WL.move rfl rfl (WL.move rfl rfl (WL.idxA Tryz.underlying82 Tryz.sizeOf84 rfl rfl (RdL.isSome (E := oxE) (by first | with_reducible assumption | with_reducible exact RdL.mem (by with_reducible assumption) M | exact M.rdL Has.a | exact RdLH.at (by assumption) (M.sel Sel.a) | exact RdL.nil _ _ _) (by omega)) (by omega) (by omega) (by first | exact rfl | exact (Int.toNat_of_nonneg (by omega)).symm) rfl ?_))))))))
   refine WL.loadE0 (E := oxE) Tryz.isAgg84 rfl (by first | with_reducible assumption | with_reducible exact RdL.mem (by with_reducible assumption) M | exact M.rdL Has.a | exact RdLH.at (by assumption) (M.sel Sel.a) | exact RdL.nil _ _ _) (by omega) rfl rfl ?_
   refine WL.call Tryz.call131 rfl (refPut_ok 2 (el xs i).l (el xs i).A (el xs i).cap _ (RdB.mem (hx _ (el_mem hil)) M)) rfl ?_
   rintro _ w ⟨Af, cf, rfl, m⟩
   replace M := M.call1 m; clear m
   refine WL.move rfl rfl (WL.extractL rfl rfl rfl (WL.extractL rfl rfl rfl (WL.assign rfl rfl (WL.assign rfl rfl (WL.nil (WX.next (W.sub [(0, _), (4, _), (6, _), (7, _)] (.cons rfl (.cons rfl (.cons rfl (.cons rfl .nil)))) (W.seq (W.region (WL.move rfl rfl (WL.move rfl rfl ?_)))))))))))
   refine WL.appendBH Tryz.elem5 rfl rfl M Del.a (by first | first | with_reducible assumption | with_reducible exact RdB.mem (by with_reducible assumption) M | exact M.rdB Has.a | exact RdH.at (by assumption) (M.sel Sel.a) | exact M.rdLit' Has.a | exact M.rdLent Has.a | exact RdB.nil _ _ | exact RdB.sub (by first | with_reducible assumption | with_reducible exact RdB.mem (by with_reducible assumption) M | exact M.rdB Has.a | exact RdH.at (by assumption) (M.sel Sel.a) | exact M.rdLit' Has.a | exact M.rdLent Has.a | exact RdB.nil _ _) (by omega) (by omega) | exact RdB.pre' (by first | with_reducible assumption | with_reducible exact RdB.mem (by with_reducible assumption) M | exact M.rdB Has.a | exact RdH.at (by assumption) (M.sel Sel.a) | exact M.rdLit' Has.a | exact M.rdLent Has.a | exact RdB.nil _ _) (by omega) | exact RdB.suf (by first | with_reducible assumption | with_reducible exact RdB.mem (by with_reducible assumption) M | exact M.rdB Has.a | exact RdH.at (by assumption) (M.sel Sel.a) | exact M.rdLit' Has.a | exact M.rdLent Has.a | exact RdB.nil _ _) (by omega)) rfl rfl (by first | omega | (simp; done) | (simp; omega)) rfl ?_
   intro A11_2 cap11_2 w M
   rw [← hfb] at M ⊢
   refine WL.assign rfl rfl (WL.nil (WX.next (W.sub [(0, _), (4, _), (6, _)] (.cons rfl (.cons rfl (.cons rfl .nil))) (W.seq (W.region (WL.move rfl rfl (WL.len Tryz.underlying84 rfl rfl (WL.gtr rfl rfl rfl (WL.nil (WX.next (W.sub [(0, _), (4, _), (6, _), (40, _)] (.cons rfl (.cons rfl (.cons rfl (.cons rfl .nil)))) (W.ite rfl (fun c3 => ?_) (fun c3 => ?_)))))))))))))
   ·exact absurd c3 (by omega)
   ·refine W.skip (WX.blockNormal (WX.next (W.region (WL.move rfl rfl (WL.add rfl rfl (by first | exact wI64 (by omega) | rfl) rfl ?_)))))
    refine WL.assign rfl rfl (WL.nil ?_)
    refine WX.round ((i + 1, A11_2, cap11_2)) envSub.sf ⟨M.sel Sel.a, (by dsimp only; omega)⟩ (by first | omega | (dsimp only; omega))
  ·refine W.exit (WX.thenExit (WX.thenExit (WX.blockHere (WX.next (W.seq (W.region (WL.move rfl rfl (WL.assign rfl rfl (WL.assign rfl rfl (WL.nil (WX.next (W.sub [(2, _), (3, _)] (.cons rfl (.cons rfl .nil)) (W.ret (WX.ret2 rfl rfl rfl ?_))))))))))))))
   obtain rfl : i = xs.length := by omega
   rw [List.take_of_length_le (by omega)] at M ⊢
   exact ⟨Ab, cb, rfl, M.sel Sel.a⟩
section
variable {g gd e cl n : Nat} {Al : Option Addr} {dead : Bool} {xs : List OX} (w0 w : World) (L L' : List Asr)
theorem rwUsed_ok (hl : xs.length ≤ 100000) (hb : ∀ x ∈ xs, x.l.length ≤ 1024) (hf : (framesB (xs.map OX.l)).length ≤ 65536) (M : Mem w0 w L) (h1 : Has (rwRow g gd e Al xs.length cl n dead) L) (h2 : Has (Asr.lst oxE Al cl xs) L) (h3 : Has (Asr.star (xs.map OX.O)) L) :
 Fn Tryz.prog 114 [.pointer (some ⟨g, 0, none⟩)] w fun v w' => v = .int .i64 ((framesB (xs.map OX.l)).length : Int) ∧ Mem w0 w' L := by
 have hv : framesV (xs.map OX.l) = framesB (xs.map OX.l) := by
  unfold framesV
  rw [if_neg]
  rintro ⟨y, hy, hlt⟩
  obtain ⟨z, hz, rfl⟩ := List.mem_map.1 hy
  have := hb z hz
  omega
 refine Fn.enter Tryz.func114 rfl Tryz.ntmps114 rfl (W.sub [(0, _)] (.cons rfl .nil) (W.seq (W.region (WL.assign rfl rfl (WL.nil (WX.next (W.sub [(0, _)] (.cons rfl .nil) (W.seq (W.region (WL.move rfl rfl (WL.nilCheck rfl rfl (WL.fieldR (off := 2) Tryz.underlying91 rfl rfl Tryz.sizeOf82 rfl rfl rfl ?_))))))))))))
 refine WL.loadR (v := .slice Al xs.length cl) Tryz.isAgg82 rfl M h1 rfl rfl ?_
 refine WL.call Tryz.call130 rfl (rwFrames_ok (M.rdL h2) (fun x hx => ownRd (M.starHas (f := OX.O) h3 hx)) hl (fun x hx => by have := hb x hx; omega) hf) rfl ?_
 rintro _ w ⟨A1, q1, rfl, m⟩
 replace M := M.call1 m; clear m
 rw [hv] at M ⊢
 refine WL.move rfl rfl (WL.extractL rfl rfl rfl (WL.extractL rfl rfl rfl (WL.assign rfl rfl (WL.assign rfl rfl (WL.nil (WX.next (W.sub [(3, _)] (.cons rfl .nil) (W.seq (W.region (WL.move rfl rfl (WL.len Tryz.underlying84 rfl rfl (WL.assign rfl rfl (WL.nil (WX.next (W.sub [(2, _)] (.cons rfl .nil) (W.ret (WX.ret1 rfl rfl ?_)))))))))))))))))
 exact ⟨rfl, M.tail⟩
theorem rwRoom_ok (k : RdX) (hk : k.d.ok) (h2' : 2 ≤ k.d.safe.length) (hl : xs.length ≤ 100000) (hb : ∀ x ∈ xs, x.l.length ≤ 1024) (hf : (framesB (xs.map OX.l)).length ≤ 32 * halfD k.d) (M : Mem w0 w L) (h1 : Has (rwRow g k.g e Al xs.length cl n dead) L) (h2 : Has (Asr.lst oxE Al cl xs) L) (h3 : Has (Asr.star (xs.map OX.O)) L) (hkO : Has k.O L) :
 Fn Tryz.prog 113 [.pointer (some ⟨g, 0, none⟩)] w fun v w' => v = .int .i64 ((32 * halfD k.d - (framesB (xs.map OX.l)).length : Nat) : Int) ∧ Mem w0 w' L := by
 have hln := hk.len
 have hh : halfD k.d ≤ 1023 := by unfold halfD; omega
 refine Fn.enter Tryz.func113 rfl Tryz.ntmps113 rfl (W.sub [(0, _)] (.cons rfl .nil) (W.seq (W.region (WL.assign rfl rfl (WL.nil (WX.next (W.sub [(0, _)] (.cons rfl .nil) (W.seq (W.region (WL.move rfl rfl (WL.nilCheck rfl rfl (WL.fieldR (off := 0) Tryz.underlying91 rfl rfl Tryz.sizeOf32 rfl rfl rfl ?_))))))))))))
 refine WL.loadR (v := .pointer (some ⟨k.g, 0, none⟩)) Tryz.isAgg32 rfl M h1 rfl rfl ?_
 refine WL.call Tryz.call93 rfl (refHalf_ok k hk w0 w _ M hkO h2') rfl ?_
 rintro _ _ ⟨rfl, hw⟩
 rw [hw]; clear hw
 refine WL.mul rfl rfl (by first | exact wI64 (by omega) | rfl) rfl ?_
 refine WL.move rfl rfl (WL.call Tryz.call114 rfl (rwUsed_ok w0 w _ hl hb (by omega) M h1 h2 h3) rfl ?_)
 rintro _ w ⟨rfl, M⟩
 refine WL.sub' rfl rfl (by first | exact wI64 (by omega) | rfl) rfl ?_
 refine WL.assign rfl rfl (WL.nil (WX.next (W.sub [(2, _)] (.cons rfl .nil) (W.ret (WX.ret1 rfl rfl ?_)))))
 exact ⟨by congr 1; omega, M⟩
set_option maxRecDepth 10000 in
theorem rwFull_ok (k : RdX) (hk : k.d.ok) (h2' : 2 ≤ k.d.safe.length) {A : Option Addr} {cap : Nat} {ys : List OX} {ro : List Value} (hl : ys.length ≤ 100000) (hb : ∀ x ∈ ys, x.l.length ≤ 1024) (hf : (framesB (ys.map OX.l)).length ≤ 32 * halfD k.d) (M : Mem w0 w L) (h1 : Has (Asr.row g 91 ro) L) (h0 : ro[0]? = some (.pointer (some ⟨k.g, 0, none⟩))) (hr : RdL w oxE A cap ys) (hx : ∀ x ∈ ys, RdB w x.A x.cap x.l) (hkO : Has k.O L) :
 Fn Tryz.prog 115 [.pointer (some ⟨g, 0, none⟩), .slice A ys.length cap] w fun v w' => ∃ A' c', v = .slice A' (areaB (halfD k.d) (ys.map OX.l)).length c' ∧ Mem w0 w' (Asr.own 5 1 A' (areaB (halfD k.d) (ys.map OX.l)).length c' (bs (areaB (halfD k.d) (ys.map OX.l))) :: L) := by
 have hln := hk.len
 obtain ⟨h, hhd⟩ : ∃ h, h = halfD k.d := ⟨_, rfl⟩
 have hh : h ≤ 1023 := by rw [hhd]; unfold halfD; omega
 obtain ⟨f, hfd⟩ : ∃ f, f = framesB (ys.map OX.l) := ⟨_, rfl⟩
 have hv : framesV (ys.map OX.l) = f := by
  unfold framesV
  rw [if_neg, hfd]
  rintro ⟨y, hy, hlt⟩
  obtain ⟨z, hz, rfl⟩ := List.mem_map.1 hy
  have := hb z hz
  omega
 rw [← hhd, ← hfd] at hf
 refine Fn.enter Tryz.func115 rfl Tryz.ntmps115 rfl (W.sub [(0, _), (1, _)] (.cons rfl (.cons rfl .nil)) (W.seq (W.region (WL.assign rfl rfl (WL.nil (WX.next (W.sub [(0, _), (1, _)] (.cons rfl (.cons rfl .nil)) (W.seq (W.region (WL.move rfl rfl ?_))))))))))
 refine WL.call Tryz.call130 rfl (rwFrames_ok hr hx hl (fun x hx => by have := hb x hx; omega) (by rw [← hfd]; omega)) rfl ?_
 rintro _ w ⟨A1, q1, rfl, m⟩
 replace M := M.call1 m; clear m
 rw [hv] at M ⊢
 refine WL.move rfl rfl (WL.extractL rfl rfl rfl (WL.extractL rfl rfl rfl (WL.assign rfl rfl (WL.assign rfl rfl (WL.nil (WX.next (W.sub [(0, _), (5, _)] (.cons rfl (.cons rfl .nil)) (W.seq (W.block ?_)))))))))
 refine W.loop (ι := Nat × Option Addr × Nat) (fun z => [(0, .pointer (some ⟨g, 0, none⟩)), (5, .slice z.2.1 (f ++ List.replicate z.1 0).length z.2.2)]) (fun zz w => Mem w0 w ((fun z => Asr.own 5 1 z.2.1 (f ++ List.replicate z.1 0).length z.2.2 (bs (f ++ List.replicate z.1 0)) :: L) zz) ∧ (fun z => f.length + z.1 ≤ 32 * h) zz) (fun z => 32 * h - z.1) ((0, A1, q1)) (by rw [List.replicate_zero, List.append_nil]; exact .cons rfl (.cons rfl .nil)) ⟨(by dsimp only; rw [List.replicate_zero, List.append_nil]; exact M.sel Sel.a), (by dsimp only; omega)⟩ ?_
 clear M; rintro (⟨j, A2, q2⟩) w ⟨M, hj⟩; dsimp only at M hj ⊢
 refine W.sub [(0, _), (5, _)] (.cons rfl (.cons rfl .nil)) (W.seq (W.seq (W.region (WL.move rfl rfl (WL.len Tryz.underlying84 rfl rfl (WL.move rfl rfl (WL.nilCheck rfl rfl (WL.fieldR (off := 0) Tryz.underlying91 rfl rfl Tryz.sizeOf32 rfl rfl rfl ?_))))))))
 refine WL.load Tryz.isAgg32 rfl ((M.cellH (.there h1) 0).trans h0) rfl (WL.call Tryz.call93 rfl (refHalf_ok k hk w0 w _ M (.there hkO) h2') rfl ?_)
 rintro _ _ ⟨rfl, hw⟩
 rw [hw]; clear hw
 rw [← hhd]
 refine WL.mul rfl rfl (by first | exact wI64 (by omega) | rfl) rfl ?_
 have hfl : (f ++ List.replicate j (0 : UInt8)).length = f.length + j := by rw [List.length_append, List.length_replicate]
 refine WL.lss rfl rfl rfl (WL.nil (WX.next (W.sub [(0, _), (5, _), (20, _)] (.cons rfl (.cons rfl (.cons rfl .nil))) (W.ite rfl (fun c0 => ?_) (fun c0 => ?_)))))
 ·refine W.skip (WX.next (W.block (W.region (WL.move rfl rfl ?_))))
  refine WL.buildB (es := [_]) Tryz.elem5 M rfl rfl (by apply BytesOf.lit (b := 0) (by decide); exact BytesOf.nil) (by rfl) rfl rfl ?_
  intro g3_1 w M
  refine WL.appendBH Tryz.elem5 rfl rfl M Del.a (by first | first | with_reducible assumption | with_reducible exact RdB.mem (by with_reducible assumption) M | exact M.rdB Has.a | exact RdH.at (by assumption) (M.sel Sel.a) | exact M.rdLit' Has.a | exact M.rdLent Has.a | exact RdB.nil _ _ | exact RdB.sub (by first | with_reducible assumption | with_reducible exact RdB.mem (by with_reducible assumption) M | exact M.rdB Has.a | exact RdH.at (by assumption) (M.sel Sel.a) | exact M.rdLit' Has.a | exact M.rdLent Has.a | exact RdB.nil _ _) (by omega) (by omega) | exact RdB.pre' (by first | with_reducible assumption | with_reducible exact RdB.mem (by with_reducible assumption) M | exact M.rdB Has.a | exact RdH.at (by assumption) (M.sel Sel.a) | exact M.rdLit' Has.a | exact M.rdLent Has.a | exact RdB.nil _ _) (by omega) | exact RdB.suf (by first | with_reducible assumption | with_reducible exact RdB.mem (by with_reducible assumption) M | exact M.rdB Has.a | exact RdH.at (by assumption) (M.sel Sel.a) | exact M.rdLit' Has.a | exact M.rdLent Has.a | exact RdB.nil _ _) (by omega)) rfl rfl (by first | omega | (simp; done) | (simp; omega)) rfl ?_
  intro A3_2 cap3_2 w M
  refine WL.assign rfl rfl (WL.nil (WX.blockNormal ?_))
  skip
  have q : f ++ List.replicate j (0 : UInt8) ++ [0] = f ++ List.replicate (j + 1) 0 := by rw [List.append_assoc, List.replicate_succ']
  rw [q] at M ⊢
  refine WX.round ((j + 1, A3_2, cap3_2)) envSub.sf ⟨M.sel Sel.a, (by dsimp only; omega)⟩ (by first | omega | (dsimp only; omega))
 ·refine W.exit (WX.thenExit (WX.thenExit (WX.blockHere (WX.next (W.seq (W.region (WL.move rfl rfl (WL.assign rfl rfl (WL.nil (WX.next (W.sub [(4, _)] (.cons rfl .nil) (W.ret (WX.ret1 rfl rfl ?_)))))))))))))
  have hfl : (f ++ List.replicate j (0 : UInt8)).length = f.length + j := by rw [List.length_append, List.length_replicate]
  have e1 : areaB h (ys.map OX.l) = f ++ List.replicate j 0 := by
   unfold areaB
   rw [← hfd, show 32 * h - f.length = j by omega]
  rw [e1]
  exact ⟨A2, q2, rfl, M.sel Sel.a⟩
end
end Go.Proofs.YtlminileigfkcaaGreat
namespace Go.Proofs.YtlminileigfkcaaGreat
open Go Go.RowKit Go.Lib Crc Bin
section
variable (w0 w : World) (L L1 L2 : List Asr)
set_option maxHeartbeats 1000000 in
set_option maxRecDepth 10000 in
theorem rwLay_ok (k : RdX) (hk : k.d.ok) {g e0 m cl n gb cb : Nat} {Al : Option Addr} (e i0 j : Nat) (b : List UInt8) (hb : b.length = 32 * halfD k.d) (h6 : 6 ≤ k.d.safe.length) (he : e < 18446744073709551616) (hij : i0 ≤ j + 1) (hj : j < halfD k.d) (hwa : k.d.waits.length ≤ 90000)
 (M : Mem w0 w L) (hd1 : Del (rwRow g k.g e0 Al m cl n false) L L1) (hd2 : Del k.O L1 L2) (hrb : RdH w0 L2 (some ⟨gb, 0, none⟩) cb b) :
 Fn Tryz.prog 116 [.pointer (some ⟨g, 0, none⟩), .int .u64 (e : Int), .slice (some ⟨gb, 0, none⟩) b.length cb, .int .i64 (i0 : Int), .int .i64 (j : Int)] w fun v w' => v = .int .i64 ((layD (firstN (halfD k.d) e) b (j + 1 - i0) i0 k.d).1 : Int) ∧ ∃ k' : RdX, k'.g = k.g ∧ k'.d = (layD (firstN (halfD k.d) e) b (j + 1 - i0) i0 k.d).2 ∧ k'.d.ok ∧ k'.d.safe.length = k.d.safe.length ∧ k'.d.waits.length ≤ k.d.waits.length + 1100 ∧
  Mem w0 w' (rwRow g k.g e0 Al m cl n (decide ((layD (firstN (halfD k.d) e) b (j + 1 - i0) i0 k.d).1 ≠ 0)) :: k'.O :: L2) := by
 have M1 := (M.del hd1).perm (List.Perm.cons _ hd2.perm)
 clear M
 have M := M1
 have hln := hk.len
 obtain ⟨h, hhd⟩ : ∃ h, h = halfD k.d := ⟨_, rfl⟩
 have hh : h ≤ 1023 ∧ 2 + 2 * h ≤ k.d.safe.length := by rw [hhd]; unfold halfD; omega
 have he1 : firstN h e + h ≤ k.d.safe.length := by
  have : e % 2 * h ≤ 1 * h := Nat.mul_le_mul_right _ (by omega)
  unfold firstN
  omega
 have hcb : b.length ≤ cb := (hrb.at M.tail.tail).le
 rw [← hhd] at hb hj ⊢
 obtain ⟨T, hT⟩ : ∃ T, T = layD (firstN h e) b (j + 1 - i0) i0 k.d := ⟨_, rfl⟩
 rw [← hT]
 refine Fn.enter Tryz.func116 rfl Tryz.ntmps116 rfl (W.sub [(0, _), (1, _), (2, _), (3, _), (4, _)] (.cons rfl (.cons rfl (.cons rfl (.cons rfl (.cons rfl .nil))))) (W.seq (W.region (WL.assign rfl rfl (WL.nil (WX.next (W.sub [(0, _), (1, _), (2, _), (3, _), (4, _)] (.cons rfl (.cons rfl (.cons rfl (.cons rfl (.cons rfl .nil))))) (W.seq (W.seq (W.region (WL.move rfl rfl (WL.assign rfl rfl (WL.nil (WX.next (W.sub [(0, _), (1, _), (2, _), (4, _), (11, _)] (.cons rfl (.cons rfl (.cons rfl (.cons rfl (.cons rfl .nil))))) (W.block (W.loop (ι := Nat × RdX) (fun z => [(0, .pointer (some ⟨g, 0, none⟩)), (1, .int .u64 (e : Int)), (2, .slice (some ⟨gb, 0, none⟩) b.length cb), (4, .int .i64 (j : Int)), (11, .int .i64 (z.1 : Int))]) (fun zz w => Mem w0 w ((fun z => rwRow g k.g e0 Al m cl n false :: z.2.O :: L2) zz) ∧ (fun z => (i0 ≤ z.1 ∧ z.1 ≤ j + 1) ∧ z.2.g = k.g ∧ z.2.d.ok ∧ z.2.d.safe.length = k.d.safe.length ∧ z.2.d.waits.length + i0 ≤ k.d.waits.length + z.1 ∧ layD (firstN h e) b (j + 1 - z.1) z.1 z.2.d = T) zz) (fun z => j + 1 - z.1) ((i0, k)) envSub.sf ⟨M.sel Sel.a, ⟨⟨Nat.le_refl _, hij⟩, rfl, hk, rfl, Nat.le_refl _, hT.symm⟩⟩ ?_)))))))))))))))))
 clear M; rintro (⟨i, q⟩) w ⟨M, ⟨⟨hi1, hi2⟩, hqg, hqo, hql, hqw, hqT⟩⟩; dsimp only at M hi1 hi2 hqg hqo hql hqw hqT ⊢
 refine W.sub [(0, _), (1, _), (2, _), (4, _), (11, _)] (.cons rfl (.cons rfl (.cons rfl (.cons rfl (.cons rfl .nil))))) (W.seq (W.seq (W.region (WL.move rfl rfl (WL.move rfl rfl (WL.leq rfl rfl rfl (WL.nil (WX.next (W.sub [(0, _), (1, _), (2, _), (4, _), (11, _), (16, _)] (.cons rfl (.cons rfl (.cons rfl (.cons rfl (.cons rfl (.cons rfl .nil)))))) (W.ite rfl (fun c0 => ?_) (fun c0 => ?_)))))))))))
 ·have hih : i < h := by omega
  have hqh : halfD q.d = h := by rw [hhd]; unfold halfD; rw [hql]
  refine W.skip (WX.next (W.seq (W.block (W.seq (W.drawM ([rwRow g k.g e0 Al m cl n false]) (by kernel_rfl) (fun j => [3, 7, 9, 11].contains j) M Sel.a ?_)))))
  clear M; intro M
  apply DG.pure_ [0, 1, 2, 4, 5, 6, 8, 10, 12, 13, 14, 15, 16, 17, 18] 6 rfl (by kernel_rfl) (by kernel_rfl)
  ·intro w
   refine WL.move rfl rfl (WL.nilCheck rfl rfl (WL.fieldR (off := 0) Tryz.underlying91 rfl rfl Tryz.sizeOf32 rfl rfl rfl ?_))
   refine WL.move rfl rfl (WL.nilCheck rfl rfl (WL.fieldR (off := 0) Tryz.underlying91 rfl rfl Tryz.sizeOf32 rfl rfl rfl ?_))
   refine WL.move rfl rfl (WL.move rfl rfl (WL.move rfl rfl (WL.move rfl rfl (WL.mul rfl rfl (by first | exact wI64 (by omega) | rfl) rfl ?_))))
   refine WL.move rfl rfl (WL.mul rfl rfl (by first | exact wI64 (by omega) | rfl) rfl ?_)
   refine WL.add rfl rfl (by first | exact wI64 (by omega) | rfl) rfl ?_
   refine WL.cutLH (an := i * 32) (bn := i * 32 + 32) (m' := 32) Tryz.underlying84 Tryz.sizeOf5 rfl rfl rfl (by omega) (by omega) (by omega) (by omega) (by omega) (by omega) rfl ?_
   exact Chain.end_ rfl
  apply DG.take [3, 7] 4 rfl (by kernel_rfl) (by kernel_rfl) (M.sel Sel.a)
  ·intro w M
   refine WL.loadR (v := .pointer (some ⟨q.g, 0, none⟩)) Tryz.isAgg32 rfl M Has.a (by rw [hqg]; rfl) rfl ?_
   refine WL.loadR (v := .pointer (some ⟨q.g, 0, none⟩)) Tryz.isAgg32 rfl M Has.a (by rw [hqg]; rfl) rfl ?_
   exact Chain.end_ rfl
  refine DG.step 9 3 rfl (by kernel_rfl) ?_
  refine WL.call Tryz.call94 rfl (refFirst_ok q hqo w0 _ _ M Has.a (by omega) e he) rfl ?_
  rintro _ _ ⟨rfl, hw⟩
  rw [hw]; clear hw
  rw [hqh]
  refine DG.go (G := fun j => [3, 7, 9, 11].contains j) (i := 9) (f' := 3) (done := [0, 1, 2, 4, 5, 6, 8, 10, 12, 13, 14, 15, 16, 17, 18, 3, 7]) (fun _ => M.sel Sel.a) ?_
  apply DG.take [11] 2 rfl (by kernel_rfl) (by kernel_rfl) (M.sel Sel.a)
  ·intro w M
   refine WL.add rfl rfl (by first | exact wI64 (by omega) | rfl) rfl ?_
   exact Chain.end_ rfl
  refine DG.step 19 1 rfl (by kernel_rfl) ?_
  rw [cutA_lit (by omega), Nat.mul_one, show (firstN h e : Int) + (i : Int) = ((firstN h e + i : Nat) : Int) by push_cast; rfl]
  refine WL.call Tryz.call98 rfl (refWrite_ok q w0 _ _ _ hqo (firstN h e + i) (by omega) (secAt b i) (some ⟨gb, i * 32, none⟩) (cb - i * 32) M Del.a (by intro w M; exact secAt_rd (hrb.at (M.sel Sel.a)) (by omega))) rfl ?_
  rintro _ w ⟨rfl, q2, p1, p2, M⟩
  have q2ok : q2.d.ok := by rw [p2]; exact Dk.write_ok hqo _ (by omega) (by omega)
  have q2len : q2.d.safe.length = k.d.safe.length := by rw [p2, Dk.write_len]; exact hql
  have q2few : q2.d.waits.length ≤ q.d.waits.length + 1 := by rw [p2]; exact Dk.write_few ..
  refine DG.go (G := fun j => [3, 7, 9, 11].contains j) (i := 19) (f' := 1) (done := [0, 1, 2, 4, 5, 6, 8, 10, 12, 13, 14, 15, 16, 17, 18, 3, 7, 9, 11]) (fun h => by cases h) ?_
  apply DG.pure_ [20] 0 rfl (by kernel_rfl) (by kernel_rfl)
  ·intro w
   refine WL.assign rfl rfl ?_
   exact Chain.end_ rfl
  refine DG.end_ (by kernel_rfl) ?_
  refine WX.next (W.sub [(0, _), (1, _), (2, _), (4, _), (11, _), (12, _)] (.cons rfl (.cons rfl (.cons rfl (.cons rfl (.cons rfl (.cons rfl .nil)))))) (W.seq (W.region (WL.move rfl rfl (WL.neI rfl rfl rfl (WL.nil (WX.next (W.sub [(0, _), (1, _), (2, _), (4, _), (11, _), (12, _), (40, _)] (.cons rfl (.cons rfl (.cons rfl (.cons rfl (.cons rfl (.cons rfl (.cons rfl .nil))))))) (W.ite rfl (fun c1 => ?_) (fun c1 => ?_))))))))))
  ·refine W.seq (W.region (WL.move rfl rfl (WL.nilCheck rfl rfl (WL.fieldR (off := 4) Tryz.underlying91 rfl rfl Tryz.sizeOf4 rfl rfl rfl ?_))))
   refine WL.storeR Tryz.sizeOf4 rfl rfl rfl M Has.a (by repeat (first | exact SetAt.zero | apply SetAt.succ)) Upd.a ?_
   intro w M
   refine WL.nil (WX.next (W.sub [(12, _)] (.cons rfl .nil) (W.seq (W.region (WL.move rfl rfl (WL.assign rfl rfl (WL.nil (WX.next (W.sub [(10, _)] (.cons rfl .nil) (W.ret (WX.blockRet (WX.thenRet (WX.thenRet (WX.blockRet (WX.thenRet (WX.ret1 rfl rfl ?_))))))))))))))))
   have e1 : T = q.d.write (firstN h e + i) (secAt b i) := by
    rw [← hqT, show j + 1 - i = (j - i) + 1 by omega]
    unfold layD
    rw [eachN, if_pos (by omega)]
   rw [e1, decide_eq_true (by omega)]
   exact ⟨rfl, q2, p1.trans hqg, p2, q2ok, q2len, by omega, M.sel Sel.a⟩
  ·refine W.skip (WX.blockNormal (WX.next (W.region (WL.move rfl rfl (WL.add rfl rfl (by first | exact wI64 (by omega) | rfl) rfl ?_)))))
   refine WL.assign rfl rfl (WL.nil ?_)
   skip
   have e1 : layD (firstN h e) b (j + 1 - (i + 1)) (i + 1) q2.d = T := by
    rw [← hqT, show j + 1 - i = (j + 1 - (i + 1)) + 1 by omega, p2]
    unfold layD
    conv => rhs; rw [eachN, if_neg (by omega)]
   refine WX.round ((i + 1, q2)) envSub.sf ⟨M.sel Sel.a, ⟨⟨by dsimp only; omega, by dsimp only; omega⟩, p1.trans hqg, q2ok, q2len, by dsimp only; omega, e1⟩⟩ (by first | omega | (dsimp only; omega))
 ·refine W.exit (WX.thenExit (WX.thenExit (WX.blockHere (WX.next (W.seq (W.region (WL.assign rfl rfl (WL.nil (WX.next (W.sub [(10, _)] (.cons rfl .nil) (W.ret (WX.ret1 rfl rfl ?_))))))))))))
  obtain rfl : i = j + 1 := by omega
  rw [Nat.sub_self] at hqT
  have e1 : T = (0, q.d) := by rw [← hqT]; rfl
  rw [e1]
  exact ⟨rfl, q, hqg, rfl, hqo, hql, by omega, M.sel Sel.a⟩
set_option maxHeartbeats 1000000 in
set_option maxRecDepth 10000 in
theorem rwSync_ok (x : RwX) (k : RdX) (hx : x.ok (halfD k.d)) (hk : k.d.ok) (hgd : x.gd = k.g) (M : Mem w0 w L) (hd1 : Del x.O L L1) (hd2 : Del k.O L1 L2) :
 Fn Tryz.prog 79 [.pointer (some ⟨x.g, 0, none⟩)] w fun v w' => v = .int .i64 ((syncW x.s k.d).1 : Int) ∧ ∃ (x' : RwX) (k' : RdX), x'.g = x.g ∧ x'.gd = x.gd ∧ x'.s = (syncW x.s k.d).2.1 ∧ x'.ok (halfD k.d) ∧ k'.g = k.g ∧ k'.d = (syncW x.s k.d).2.2 ∧ k'.d.ok ∧ k'.d.safe.length = k.d.safe.length ∧ k'.d.waits.length ≤ k.d.waits.length ∧
  Mem w0 w' (x'.O :: k'.O :: L2) := by
 have M1 := ((M.del hd1).perm (List.Perm.cons _ hd2.perm)).unstar3
 clear M
 have M := M1
 obtain ⟨⟨hlo, hhi, hfits, hshort, hep, hn⟩, hxs⟩ := hx
 obtain ⟨g, gd, Al, cl, xs, s⟩ := x
 dsimp only at *
 subst hgd
 obtain ⟨e, l, n, dead⟩ := s
 dsimp only at *
 have hxl : xs.length = l.length := by have := congrArg List.length hxs; simpa using this
 have hfew := framesB_few l hshort
 unfold usedW at hfits
 dsimp only at hfits
 refine Fn.enter Tryz.func79 rfl Tryz.ntmps79 rfl (W.sub [(0, _)] (.cons rfl .nil) (W.seq (W.region (WL.assign rfl rfl (WL.nil (WX.next (W.sub [(0, _)] (.cons rfl .nil) (W.seq (W.region (WL.move rfl rfl (WL.call Tryz.call112 rfl (rwGone_ok w0 w _ _ k M Del.a Has.a) rfl ?_)))))))))))
 rintro _ w ⟨rfl, M⟩
 refine WL.assign rfl rfl (WL.nil (WX.next (W.sub [(0, _), (3, _)] (.cons rfl (.cons rfl .nil)) (W.seq (W.seq (W.region (WL.move rfl rfl (WL.nil (WX.next (W.sub [(0, _), (7, _)] (.cons rfl (.cons rfl .nil)) (W.cond rfl (fun c0 => ?_) (fun c0 => ?_))))))))))))
 ·(try simp only [Bool.not_eq_true'] at c0); (try simp only [Bool.not_eq_false'] at c0); (try simp only [decide_eq_true_eq] at c0); (try simp only [decide_eq_false_iff_not] at c0)
  refine W.seq (W.region (WL.assign rfl rfl (WL.nil (WX.next (W.sub [(2, _)] (.cons rfl .nil) (W.ret (WX.thenRet (WX.ret1 rfl rfl ?_))))))))
  have hdd : (dead || k.d.down) = true := c0
  rw [hdd] at M
  have hor : dead = true ∨ k.d.down = true := by simpa using hdd
  have e1 : syncW ⟨e, l, n, dead⟩ k.d = (6, ⟨e, l, n, true⟩, k.d) := by unfold syncW; rw [if_pos hor]
  rw [e1]
  exact ⟨rfl, ⟨g, k.g, Al, cl, xs, ⟨e, l, n, true⟩⟩, k, rfl, rfl, rfl, ⟨⟨hlo, hhi, hfits, hshort, hep, hn⟩, hxs⟩, rfl, rfl, hk, rfl, Nat.le_refl _, Mem.star3 (M.sel Sel.a)⟩
 ·(try simp only [Bool.not_eq_true'] at c0); (try simp only [Bool.not_eq_false'] at c0); (try simp only [decide_eq_true_eq] at c0); (try simp only [decide_eq_false_iff_not] at c0)
  have hdd : (dead || k.d.down) = false := by simpa using c0
  rw [hdd] at M
  obtain ⟨hd, hdn⟩ : dead = false ∧ k.d.down = false := by simpa using hdd
  rw [hd]
  have hno : ¬ ((false : Bool) = true ∨ k.d.down = true) := by rw [hdn]; simp
  refine W.skip (WX.next (W.seq (W.region (WL.move rfl rfl (WL.nilCheck rfl rfl (WL.fieldR (off := 0) Tryz.underlying91 rfl rfl Tryz.sizeOf32 rfl rfl rfl ?_))))))
  refine WL.loadR Tryz.isAgg32 rfl M Has.a rfl rfl (WL.call Tryz.call99 rfl (refSync_ok k w0 w _ _ hk M Del.a) rfl ?_)
  rintro _ w ⟨rfl, k2, q1, q2, M⟩
  refine WL.assign rfl rfl (WL.nil (WX.next (W.sub [(0, _), (4, _)] (.cons rfl (.cons rfl .nil)) (W.seq (W.seq (W.region (WL.move rfl rfl (WL.neI rfl rfl rfl (WL.nil (WX.next (W.sub [(0, _), (4, _), (14, _)] (.cons rfl (.cons rfl (.cons rfl .nil))) (W.ite rfl (fun c1 => ?_) (fun c1 => ?_)))))))))))))
  ·have hs : k.d.sync.1 ≠ 0 := by omega
   refine W.seq (W.region (WL.move rfl rfl (WL.nilCheck rfl rfl (WL.fieldR (off := 4) Tryz.underlying91 rfl rfl Tryz.sizeOf4 rfl rfl rfl ?_))))
   refine WL.storeR Tryz.sizeOf4 rfl rfl rfl M Has.a (by repeat (first | exact SetAt.zero | apply SetAt.succ)) Upd.a ?_
   intro w M
   refine WL.nil (WX.next (W.sub [(4, _)] (.cons rfl .nil) (W.seq (W.region (WL.move rfl rfl (WL.assign rfl rfl (WL.nil (WX.next (W.sub [(2, _)] (.cons rfl .nil) (W.ret (WX.thenRet (WX.ret1 rfl rfl ?_))))))))))))
   have e1 : syncW ⟨e, l, n, false⟩ k.d = (k.d.sync.1, ⟨e, l, n, true⟩, k.d.sync.2) := by unfold syncW; rw [if_neg hno, if_pos hs]
   rw [e1]
   exact ⟨rfl, ⟨g, k.g, Al, cl, xs, ⟨e, l, n, true⟩⟩, k2, rfl, rfl, rfl, ⟨⟨hlo, hhi, hfits, hshort, hep, hn⟩, hxs⟩, q1, q2, by rw [q2]; exact Dk.sync_ok hk, by rw [q2]; exact Dk.sync_len _, by rw [q2]; exact Dk.sync_few _, Mem.star3 (M.sel Sel.a)⟩
  ·have hs : ¬ k.d.sync.1 ≠ 0 := by omega
   refine W.skip (WX.next (W.seq (W.region (WL.move rfl rfl (WL.move rfl rfl (WL.nilCheck rfl rfl (WL.fieldR (off := 2) Tryz.underlying91 rfl rfl Tryz.sizeOf82 rfl rfl rfl ?_)))))))
   refine WL.loadR Tryz.isAgg82 rfl M Has.a rfl rfl (WL.len Tryz.underlying82 rfl rfl (WL.nilCheck rfl rfl (WL.fieldR (off := 3) Tryz.underlying91 rfl rfl Tryz.sizeOf3 rfl rfl rfl ?_)))
   refine WL.storeR Tryz.sizeOf3 rfl rfl rfl M Has.a (by repeat (first | exact SetAt.zero | apply SetAt.succ)) Upd.a ?_
   intro w M
   refine WL.nil (WX.next (W.sub [] .nil (W.seq (W.region (WL.assign rfl rfl (WL.nil (WX.next (W.sub [(2, _)] (.cons rfl .nil) (W.ret (WX.ret1 rfl rfl ?_))))))))))
   have e1 : syncW ⟨e, l, n, false⟩ k.d = (0, ⟨e, l, l.length, false⟩, k.d.sync.2) := by unfold syncW; rw [if_neg hno, if_neg hs]
   rw [e1]
   refine ⟨rfl, ⟨g, k.g, Al, cl, xs, ⟨e, l, l.length, false⟩⟩, k2, rfl, rfl, rfl, ⟨⟨hlo, hhi, hfits, hshort, hep, Nat.le_refl _⟩, hxs⟩, q1, q2, by rw [q2]; exact Dk.sync_ok hk, by rw [q2]; exact Dk.sync_len _, by rw [q2]; exact Dk.sync_few _, ?_⟩
   unfold RwX.O
   dsimp only
   rw [← hxl]
   exact Mem.star3 (M.sel Sel.a)
set_option maxHeartbeats 4000000 in
set_option maxRecDepth 10000 in
theorem rwAppend_ok (x : RwX) (k : RdX) (hx : x.ok (halfD k.d)) (hk : k.d.ok) (hgd : x.gd = k.g) (h6 : 6 ≤ k.d.safe.length) (hwa : k.d.waits.length ≤ 90000) (b : List UInt8) (A : Option Addr) (cap : Nat) (hbl : b.length ≤ 1000000) (M : Mem w0 w L) (hd1 : Del x.O L L1) (hd2 : Del k.O L1 L2) (hb : RdH w0 L2 A cap b) :
 Fn Tryz.prog 75 [.pointer (some ⟨x.g, 0, none⟩), .slice A b.length cap] w fun v w' => v = .int .i64 ((appendW (halfD k.d) x.s k.d b).1 : Int) ∧ ∃ (x' : RwX) (k' : RdX), x'.g = x.g ∧ x'.gd = x.gd ∧ x'.s = (appendW (halfD k.d) x.s k.d b).2.1 ∧ x'.ok (halfD k.d) ∧ k'.g = k.g ∧ k'.d = (appendW (halfD k.d) x.s k.d b).2.2 ∧ k'.d.ok ∧ k'.d.safe.length = k.d.safe.length ∧ k'.d.waits.length ≤ k.d.waits.length + 1100 ∧
  Mem w0 w' (x'.O :: k'.O :: L2) := by
 have M1 := ((M.del hd1).perm (List.Perm.cons _ hd2.perm)).unstar3
 clear M
 have M := M1
 obtain ⟨⟨hlo, hhi, hfits, hshort, hep, hn⟩, hxs⟩ := hx
 obtain ⟨g, gd, Al, cl, xs, s⟩ := x
 dsimp only at *
 subst hgd
 obtain ⟨e, l, n, dead⟩ := s
 dsimp only at *
 have hxl : xs.length = l.length := by have := congrArg List.length hxs; simpa using this
 have hfew := framesB_few l hshort
 unfold usedW at hfits
 dsimp only at hfits
 obtain ⟨u, hu⟩ : ∃ u, u = (framesB l).length := ⟨_, rfl⟩
 rw [← hu] at hfits hfew
 have hsh2 : ∀ x ∈ xs, x.l.length ≤ 1024 := fun x hx => hshort _ (by rw [← hxs]; exact List.mem_map.2 ⟨_, hx, rfl⟩)
 refine Fn.enter Tryz.func75 rfl Tryz.ntmps75 rfl (W.sub [(0, _), (1, _)] (.cons rfl (.cons rfl .nil)) (W.seq (W.region (WL.assign rfl rfl (WL.nil (WX.next (W.sub [(0, _), (1, _)] (.cons rfl (.cons rfl .nil)) (W.seq (W.region (WL.move rfl rfl (WL.call Tryz.call112 rfl (rwGone_ok w0 w _ _ k M Del.a Has.a) rfl ?_)))))))))))
 rintro _ w ⟨rfl, M⟩
 refine WL.assign rfl rfl (WL.nil (WX.next (W.sub [(0, _), (1, _), (5, _)] (.cons rfl (.cons rfl (.cons rfl .nil))) (W.seq (W.region (WL.move rfl rfl ?_))))))
 refine WL.call Tryz.call113 rfl (rwRoom_ok w0 w _ k hk (by omega) (by omega) hsh2 (by rw [hxs, ← hu]; exact hfits) M Has.a Has.a Has.a Has.a) rfl ?_
 rintro _ w ⟨rfl, M⟩
 rw [hxs, ← hu]
 refine WL.assign rfl rfl (WL.nil (WX.next (W.sub [(0, _), (1, _), (5, _), (6, _)] (.cons rfl (.cons rfl (.cons rfl (.cons rfl .nil)))) (W.seq (W.block (W.seq (W.region (WL.move rfl rfl (WL.assign rfl rfl (WL.nil (WX.next (W.sub [(0, _), (1, _), (6, _), (13, _)] (.cons rfl (.cons rfl (.cons rfl (.cons rfl .nil)))) (W.cond rfl (fun c0 => ?_) (fun c0 => ?_))))))))))))))
 ·(try simp only [Bool.not_eq_true'] at c0); (try simp only [Bool.not_eq_false'] at c0); (try simp only [decide_eq_true_eq] at c0); (try simp only [decide_eq_false_iff_not] at c0)
  refine W.seq (W.region (WL.assign rfl rfl (WL.nil (WX.next (W.sub [(4, _)] (.cons rfl .nil) (W.ret (WX.blockRet (WX.thenRet (WX.ret1 rfl rfl ?_)))))))))
  have hdd : (dead || k.d.down) = true := c0
  rw [hdd] at M
  have hor : dead = true ∨ k.d.down = true := by simpa using hdd
  have e1 : appendW (halfD k.d) ⟨e, l, n, dead⟩ k.d b = (6, ⟨e, l, n, true⟩, k.d) := by unfold appendW; rw [if_pos hor]
  rw [e1]
  exact ⟨rfl, ⟨g, k.g, Al, cl, xs, ⟨e, l, n, true⟩⟩, k, rfl, rfl, rfl, ⟨⟨hlo, hhi, by unfold usedW; dsimp only; omega, hshort, hep, hn⟩, hxs⟩, rfl, rfl, hk, rfl, by omega, Mem.star3 (M.sel Sel.a)⟩
 ·(try simp only [Bool.not_eq_true'] at c0); (try simp only [Bool.not_eq_false'] at c0); (try simp only [decide_eq_true_eq] at c0); (try simp only [decide_eq_false_iff_not] at c0)
  have hdd : (dead || k.d.down) = false := by simpa using c0
  rw [hdd] at M
  obtain ⟨hd, hdn⟩ : dead = false ∧ k.d.down = false := by simpa using hdd
  rw [hd]
  have hno : ¬ ((false : Bool) = true ∨ k.d.down = true) := by rw [hdn]; simp
  refine W.seq (W.region (WL.move rfl rfl (WL.len Tryz.underlying84 rfl rfl (WL.gtr rfl rfl rfl (WL.assign rfl rfl (WL.nil (WX.next (W.sub [(0, _), (1, _), (6, _), (15, _)] (.cons rfl (.cons rfl (.cons rfl (.cons rfl .nil)))) (W.ite rfl (fun c1 => ?_) (fun c1 => ?_))))))))))
  ·refine W.seq (W.region (WL.assign rfl rfl (WL.nil (WX.next (W.sub [(4, _)] (.cons rfl .nil) (W.ret (WX.blockRet (WX.thenRet (WX.ret1 rfl rfl ?_)))))))))
   have e1 : appendW (halfD k.d) ⟨e, l, n, false⟩ k.d b = (3, ⟨e, l, n, false⟩, k.d) := by unfold appendW; rw [if_neg hno, if_pos (by omega)]
   rw [e1]
   exact ⟨rfl, ⟨g, k.g, Al, cl, xs, ⟨e, l, n, false⟩⟩, k, rfl, rfl, rfl, ⟨⟨hlo, hhi, by unfold usedW; dsimp only; omega, hshort, hep, hn⟩, hxs⟩, rfl, rfl, hk, rfl, by omega, Mem.star3 (M.sel Sel.a)⟩
  ·refine W.seq (W.region (WL.move rfl rfl (WL.len Tryz.underlying84 rfl rfl (WL.add rfl rfl (by first | exact wI64 (by omega) | rfl) rfl ?_))))
   refine WL.move rfl rfl (WL.gtr rfl rfl rfl (WL.assign rfl rfl (WL.nil (WX.next (W.sub [(0, _), (1, _), (19, _)] (.cons rfl (.cons rfl (.cons rfl .nil))) (W.ite rfl (fun c2 => ?_) (fun c2 => ?_)))))))
   ·refine W.seq (W.region (WL.assign rfl rfl (WL.nil (WX.next (W.sub [(4, _)] (.cons rfl .nil) (W.ret (WX.blockRet (WX.thenRet (WX.ret1 rfl rfl ?_)))))))))
    have e1 : appendW (halfD k.d) ⟨e, l, n, false⟩ k.d b = (5, ⟨e, l, n, false⟩, k.d) := by unfold appendW; rw [if_neg hno, if_neg (by omega), if_pos (by unfold usedW; dsimp only; omega)]
    rw [e1]
    exact ⟨rfl, ⟨g, k.g, Al, cl, xs, ⟨e, l, n, false⟩⟩, k, rfl, rfl, rfl, ⟨⟨hlo, hhi, by unfold usedW; dsimp only; omega, hshort, hep, hn⟩, hxs⟩, rfl, rfl, hk, rfl, by omega, Mem.star3 (M.sel Sel.a)⟩
   ·have hsm : b.length ≤ 1024 := by omega
    have hpl := putG_length (k := 2) hsm
    have hfit : u + (b.length + 10) ≤ 32 * halfD k.d := by omega
    have hfl : (framesB (l ++ [b])).length = u + (b.length + 10) := by rw [framesB_snoc, List.length_append, hpl, ← hu]
    have hal2 : (areaB (halfD k.d) (l ++ [b])).length = 32 * halfD k.d := areaB_length (by omega)
    refine W.skip (WX.blockNormal (WX.next (W.seq (W.region (WL.move rfl rfl ?_)))))
    refine WL.call Tryz.call114 rfl (rwUsed_ok w0 w _ (by omega) hsh2 (by rw [hxs, ← hu]; omega) M Has.a Has.a Has.a) rfl ?_
    rintro _ w ⟨rfl, M⟩
    rw [hxs, ← hu]
    refine WL.assign rfl rfl (WL.nil (WX.next (W.sub [(0, _), (1, _), (7, _)] (.cons rfl (.cons rfl (.cons rfl .nil))) (W.seq (W.drawM ([rwRow g k.g e Al xs.length cl n false]) (by kernel_rfl) (fun j => [6, 7].contains j) M Sel.a ?_)))))
    clear M; intro M
    apply DG.pure_ [0, 1, 2, 3, 5] 7 rfl (by kernel_rfl) (by kernel_rfl)
    ·intro w
     refine WL.move rfl rfl (WL.move rfl rfl (WL.nilCheck rfl rfl (WL.fieldR (off := 2) Tryz.underlying91 rfl rfl Tryz.sizeOf82 rfl rfl rfl ?_)))
     refine WL.move rfl rfl ?_
     exact Chain.end_ rfl
    apply DG.take [4] 6 rfl (by kernel_rfl) (by kernel_rfl) (M.sel Sel.a)
    ·intro w M
     refine WL.loadR Tryz.isAgg82 rfl M Has.a rfl rfl ?_
     exact Chain.end_ rfl
    refine DG.step 6 5 rfl (by kernel_rfl) ?_
    refine WL.call Tryz.call97 rfl (Copy_ok (hb.at (M.sel Sel.a)) (by omega)) rfl ?_
    rintro _ w ⟨A6, c6, rfl, m⟩
    replace M := M.call1 m; clear m
    refine DG.go (G := fun j => [6, 7].contains j) (i := 6) (f' := 5) (done := [0, 1, 2, 3, 5, 4]) (fun _ => M.sel Sel.a) ?_
    refine DG.step 7 4 rfl (by kernel_rfl) ?_
    refine WL.buildL (E := oxE) (l := [(⟨A6, c6, b⟩ : OX)]) Tryz.elem84 M rfl rfl rfl rfl rfl rfl ?_
    intro g10_7 w M
    refine DG.go (G := fun j => [6, 7].contains j) (i := 7) (f' := 4) (done := [0, 1, 2, 3, 5, 4, 6]) (fun _ => M.sel Sel.a) ?_
    refine DG.step 8 3 rfl (by kernel_rfl) ?_
    refine WL.appendL (E := oxE) Tryz.elem84 rfl rfl M Del.a (by first | with_reducible assumption | with_reducible exact RdL.mem (by with_reducible assumption) M | exact M.rdL Has.a | exact RdLH.at (by assumption) (M.sel Sel.a) | exact RdL.nil _ _ _) rfl rfl (by first | omega | (simp; done) | (simp; omega)) (by first | (simp only [maxLen]; omega) | (simp [maxLen]; done) | (simp [maxLen]; omega)) rfl ?_
    intro A10_8 cap10_8 w M
    refine DG.go (G := fun j => [6, 7].contains j) (i := 8) (f' := 3) (done := [0, 1, 2, 3, 5, 4, 6, 7]) (fun h => by cases h) ?_
    apply DG.pure_ [9, 10] 1 rfl (by kernel_rfl) (by kernel_rfl)
    ·intro w
     refine WL.nilCheck rfl rfl (WL.fieldR (off := 2) Tryz.underlying91 rfl rfl Tryz.sizeOf82 rfl rfl rfl ?_)
     exact Chain.end_ rfl
    refine DG.step 11 0 rfl (by kernel_rfl) ?_
    refine WL.storeR Tryz.sizeOf82 rfl rfl rfl M Has.a (by repeat (first | exact SetAt.zero | apply SetAt.succ)) Upd.a ?_
    intro w M
    refine DG.go (G := fun j => [6, 7].contains j) (i := 11) (f' := 0) (done := [0, 1, 2, 3, 5, 4, 6, 7, 8, 9, 10]) (fun h => by cases h) ?_
    refine DG.end_ (by kernel_rfl) ?_
    refine WX.next (W.sub [(0, _), (7, _)] (.cons rfl (.cons rfl .nil)) (W.seq ?_))
    obtain ⟨xs2, hxs2⟩ : ∃ xs2, xs2 = xs ++ [(⟨A6, c6, b⟩ : OX)] := ⟨_, rfl⟩
    have hxm : xs2.map OX.l = l ++ [b] := by rw [hxs2, List.map_append, hxs]; rfl
    have M2 : Mem w0 w (Asr.star (xs2.map OX.O) :: rwRow g k.g e A10_8 xs2.length cap10_8 n false :: Asr.lst oxE A10_8 cap10_8 xs2 :: k.O :: L2) := by
     rw [hxs2, List.map_append]
     refine Mem.starSnoc ?_
     exact M.sel Sel.a
    replace M := M2
    have hsh3 : ∀ y ∈ l ++ [b], y.length ≤ 1024 := fun y hy => by
     rcases List.mem_append.1 hy with hy | hy
     ·exact hshort y hy
     ·obtain rfl : y = b := by simpa using hy
      exact hsm
    have hsh4 : ∀ x ∈ xs2, x.l.length ≤ 1024 := fun x hx => hsh3 _ (by rw [← hxm]; exact List.mem_map.2 ⟨_, hx, rfl⟩)
    have hx2l : xs2.length = l.length + 1 := by have := congrArg List.length hxm; simpa using this
    refine W.region (WL.move rfl rfl (WL.move rfl rfl (WL.nilCheck rfl rfl (WL.fieldR (off := 2) Tryz.underlying91 rfl rfl Tryz.sizeOf82 rfl rfl rfl ?_))))
    refine WL.loadR Tryz.isAgg82 rfl M Has.a rfl rfl ?_
    refine WL.call Tryz.call115 rfl (rwFull_ok (ys := xs2) (g := g) w0 w _ k hk (by omega) (by omega) hsh4 (by rw [hxm]; omega) M Has.a rfl (M.rdL Has.a) (fun x hx => ownRd (M.starHas (f := OX.O) Has.a hx)) Has.a) rfl ?_
    rintro _ w ⟨A7, c7, rfl, M⟩
    rw [hxm] at M ⊢
    obtain ⟨g7, rfl⟩ := M.ownSome (A := A7) (n := (areaB (halfD k.d) (l ++ [b])).length) Has.a (by omega)
    refine WL.assign rfl rfl (WL.nil (WX.next (W.sub [(0, _), (7, _), (8, _)] (.cons rfl (.cons rfl (.cons rfl .nil))) (W.seq (W.drawM ([rwRow g k.g e A10_8 xs2.length cap10_8 n false]) (by kernel_rfl) (fun j => [9, 10, 11].contains j) M Sel.a ?_)))))
    clear M; intro M
    apply DG.pure_ [0, 1, 2, 3, 5, 6, 7, 8] 6 rfl (by kernel_rfl) (by kernel_rfl)
    ·intro w
     refine WL.move rfl rfl (WL.move rfl rfl (WL.nilCheck rfl rfl (WL.fieldR (off := 1) Tryz.underlying91 rfl rfl Tryz.sizeOf47 rfl rfl rfl ?_)))
     refine WL.move rfl rfl (WL.move rfl rfl (WL.quo rfl rfl (by omega) (quoI64 (by omega)) rfl ?_))
     refine WL.move rfl rfl ?_
     exact Chain.end_ rfl
    apply DG.take [4] 5 rfl (by kernel_rfl) (by kernel_rfl) (M.sel Sel.a)
    ·intro w M
     refine WL.loadR Tryz.isAgg47 rfl M Has.a rfl rfl ?_
     exact Chain.end_ rfl
    refine DG.step 9 4 rfl (by kernel_rfl) ?_
    refine WL.call Tryz.call114 rfl (rwUsed_ok (xs := xs2) w0 _ _ (by omega) hsh4 (by rw [hxm]; omega) M Has.a Has.a Has.a) rfl ?_
    rintro _ w ⟨rfl, M⟩
    rw [hxm, hfl]
    refine DG.go (G := fun j => [9, 10, 11].contains j) (i := 9) (f' := 4) (done := [0, 1, 2, 3, 5, 6, 7, 8, 4]) (fun _ => M.sel Sel.a) ?_
    apply DG.take [10, 11] 2 rfl (by kernel_rfl) (by kernel_rfl) (M.sel Sel.a)
    ·intro w M
     refine WL.sub' rfl rfl (by first | exact wI64 (by omega) | rfl) rfl ?_
     refine WL.quo rfl rfl (by omega) (quoI64 (by omega)) rfl ?_
     exact Chain.end_ rfl
    refine DG.step 12 1 rfl (by kernel_rfl) ?_
    rw [show ((u : Int) / 32) = ((u / 32 : Nat) : Int) by push_cast; rfl, show ((((u + (b.length + 10) : Nat) : Int) - 1) / 32) = (((u + b.length + 9) / 32 : Nat) : Int) by omega]
    refine WL.call Tryz.call116 rfl (rwLay_ok w0 _ _ _ _ k hk e (u / 32) ((u + b.length + 9) / 32) (areaB (halfD k.d) (l ++ [b])) hal2 h6 (by omega) (by omega) (by omega) hwa M Del.a Del.a (by intro w M; exact M.rdB Has.a)) rfl ?_
    rintro _ w ⟨rfl, k2, q1, q2, q3, q4, q5, M⟩
    refine DG.go (G := fun j => [9, 10, 11].contains j) (i := 12) (f' := 1) (done := [0, 1, 2, 3, 5, 6, 7, 8, 4, 9, 10, 11]) (fun h => by cases h) ?_
    apply DG.pure_ [13] 0 rfl (by kernel_rfl) (by kernel_rfl)
    ·intro w
     refine WL.assign rfl rfl ?_
     exact Chain.end_ rfl
    refine DG.end_ (by kernel_rfl) ?_
    refine WX.next (W.sub [(4, _)] (.cons rfl .nil) (W.ret (WX.ret1 rfl rfl ?_)))
    have e1 : appendW (halfD k.d) ⟨e, l, n, false⟩ k.d b = ((layD (firstN (halfD k.d) e) (areaB (halfD k.d) (l ++ [b])) ((u + b.length + 9) / 32 + 1 - u / 32) (u / 32) k.d).1, ⟨e, l ++ [b], n, decide ((layD (firstN (halfD k.d) e) (areaB (halfD k.d) (l ++ [b])) ((u + b.length + 9) / 32 + 1 - u / 32) (u / 32) k.d).1 ≠ 0)⟩, (layD (firstN (halfD k.d) e) (areaB (halfD k.d) (l ++ [b])) ((u + b.length + 9) / 32 + 1 - u / 32) (u / 32) k.d).2) := by
     unfold appendW
     rw [if_neg hno, if_neg (by omega), if_neg (by unfold usedW; dsimp only; omega)]
     unfold usedW
     dsimp only
     rw [← hu]
    rw [e1]
    exact ⟨rfl, ⟨g, k.g, A10_8, cap10_8, xs2, ⟨e, l ++ [b], n, decide ((layD (firstN (halfD k.d) e) (areaB (halfD k.d) (l ++ [b])) ((u + b.length + 9) / 32 + 1 - u / 32) (u / 32) k.d).1 ≠ 0)⟩⟩, k2, rfl, rfl, rfl, ⟨⟨hlo, hhi, by unfold usedW; dsimp only; omega, hsh3, hep, by dsimp only; rw [List.length_append]; omega⟩, hxm⟩, q1, q2, q3, q4, q5, Mem.star3 (M.sel Sel.a)⟩
end
end Go.Proofs.YtlminileigfkcaaGreat
namespace Go.Proofs.YtlminileigfkcaaGreat
open Go Go.RowKit Go.Lib Crc Bin
section
variable (w0 w : World) (L L1 L2 : List Asr)
set_option maxHeartbeats 4000000 in
set_option maxRecDepth 10000 in
theorem rwReset_ok (x : RwX) (k : RdX) (hx : x.ok (halfD k.d)) (hk : k.d.ok) (hgd : x.gd = k.g) (h6 : 6 ≤ k.d.safe.length) (hwa : k.d.waits.length ≤ 90000) (ys : List OX) (A : Option Addr) (cap : Nat) (hyl : ys.length ≤ 1000) (hyb : ∀ y ∈ ys, y.l.length ≤ 1000000) (hyf : (framesB (ys.map OX.l)).length ≤ 65536)
 (M : Mem w0 w L) (hd1 : Del x.O L L1) (hd2 : Del k.O L1 L2) (hr : RdLH w0 L2 oxE A cap ys) (hy : ∀ y ∈ ys, RdH w0 L2 y.A y.cap y.l) :
 Fn Tryz.prog 117 [.pointer (some ⟨x.g, 0, none⟩), .slice A ys.length cap] w fun v w' => v = .int .i64 ((resetW (halfD k.d) x.s k.d (ys.map OX.l)).1 : Int) ∧ ∃ (x' : RwX) (k' : RdX), x'.g = x.g ∧ x'.gd = x.gd ∧ x'.s = (resetW (halfD k.d) x.s k.d (ys.map OX.l)).2.1 ∧ x'.ok (halfD k.d) ∧ k'.g = k.g ∧ k'.d = (resetW (halfD k.d) x.s k.d (ys.map OX.l)).2.2 ∧ k'.d.ok ∧ k'.d.safe.length = k.d.safe.length ∧ k'.d.waits.length ≤ k.d.waits.length + 1200 ∧
  Mem w0 w' (x'.O :: k'.O :: L2) := by
 have M1 := ((M.del hd1).perm (List.Perm.cons _ hd2.perm)).unstar3
 clear M
 have M := M1
 obtain ⟨⟨hlo, hhi, hfits, hshort, hep, hn⟩, hxs⟩ := hx
 obtain ⟨g, gd, Al, cl, xs, s⟩ := x
 dsimp only at *
 subst hgd
 obtain ⟨e, l, n, dead⟩ := s
 dsimp only at *
 have hln := hk.len
 have hxl : xs.length = l.length := by have := congrArg List.length hxs; simpa using this
 have hfew := framesB_few l hshort
 unfold usedW at hfits
 dsimp only at hfits
 obtain ⟨h, hhd⟩ : ∃ h, h = halfD k.d := ⟨_, rfl⟩
 have hh : h ≤ 1023 ∧ 2 + 2 * h ≤ k.d.safe.length := by rw [hhd]; unfold halfD; omega
 obtain ⟨ls, hls⟩ : ∃ ls, ls = ys.map OX.l := ⟨_, rfl⟩
 have hlsl : ls.length = ys.length := by rw [hls, List.length_map]
 obtain ⟨hs1, hs2, hs3⟩ := headSec_l (e + 1) (by omega)
 rw [← hhd] at hlo hhi hfits ⊢
 rw [← hls] at hyf ⊢
 refine Fn.enter Tryz.func117 rfl Tryz.ntmps117 rfl (W.sub [(0, _), (1, _)] (.cons rfl (.cons rfl .nil)) (W.seq (W.region (WL.assign rfl rfl (WL.nil (WX.next (W.sub [(0, _), (1, _)] (.cons rfl (.cons rfl .nil)) (W.seq (W.region (WL.move rfl rfl (WL.call Tryz.call112 rfl (rwGone_ok w0 w _ _ k M Del.a Has.a) rfl ?_)))))))))))
 rintro _ w ⟨rfl, M⟩
 refine WL.assign rfl rfl (WL.nil (WX.next (W.sub [(0, _), (1, _), (5, _)] (.cons rfl (.cons rfl (.cons rfl .nil))) (W.seq (W.seq (W.region (WL.move rfl rfl (WL.nil (WX.next (W.sub [(0, _), (1, _), (13, _)] (.cons rfl (.cons rfl (.cons rfl .nil))) (W.cond rfl (fun c0 => ?_) (fun c0 => ?_))))))))))))
 ·(try simp only [Bool.not_eq_true'] at c0); (try simp only [Bool.not_eq_false'] at c0); (try simp only [decide_eq_true_eq] at c0); (try simp only [decide_eq_false_iff_not] at c0)
  refine W.seq (W.region (WL.assign rfl rfl (WL.nil (WX.next (W.sub [(4, _)] (.cons rfl .nil) (W.ret (WX.thenRet (WX.ret1 rfl rfl ?_))))))))
  have hdd : (dead || k.d.down) = true := c0
  rw [hdd] at M
  have hor : dead = true ∨ k.d.down = true := by simpa using hdd
  have e1 : resetW h ⟨e, l, n, dead⟩ k.d ls = (6, ⟨e, l, n, true⟩, k.d) := by unfold resetW; rw [if_pos hor]
  rw [e1]
  exact ⟨rfl, ⟨g, k.g, Al, cl, xs, ⟨e, l, n, true⟩⟩, k, rfl, rfl, rfl, ⟨⟨hlo, hhi, hfits, hshort, hep, hn⟩, hxs⟩, rfl, rfl, hk, rfl, by omega, Mem.star3 (M.sel Sel.a)⟩
 ·(try simp only [Bool.not_eq_true'] at c0); (try simp only [Bool.not_eq_false'] at c0); (try simp only [decide_eq_true_eq] at c0); (try simp only [decide_eq_false_iff_not] at c0)
  have hdd : (dead || k.d.down) = false := by simpa using c0
  rw [hdd] at M
  obtain ⟨hd, hdn⟩ : dead = false ∧ k.d.down = false := by simpa using hdd
  rw [hd]
  have hno : ¬ ((false : Bool) = true ∨ k.d.down = true) := by rw [hdn]; simp
  refine W.skip (WX.next (W.seq (W.region (WL.move rfl rfl ?_))))
  refine WL.call Tryz.call130 rfl (rwFrames_ok (hr.at (M.sel Sel.a)) (fun y hyy => (hy y hyy).at (M.sel Sel.a)) (by omega) hyb (by rw [← hls]; exact hyf)) rfl ?_
  rintro _ w ⟨A1, q1, rfl, m⟩
  replace M := M.call1 m; clear m
  rw [← hls] at M ⊢
  refine WL.move rfl rfl (WL.extractL rfl rfl rfl (WL.extractL rfl rfl rfl (WL.assign rfl rfl (WL.assign rfl rfl (WL.nil (WX.next (W.sub [(0, _), (1, _), (6, _), (7, _)] (.cons rfl (.cons rfl (.cons rfl (.cons rfl .nil)))) (W.seq (W.seq (W.region (WL.move rfl rfl (WL.neI rfl rfl rfl (WL.nil (WX.next (W.sub [(0, _), (1, _), (6, _), (7, _), (20, _)] (.cons rfl (.cons rfl (.cons rfl (.cons rfl (.cons rfl .nil))))) (W.ite rfl (fun c1 => ?_) (fun c1 => ?_)))))))))))))))))
  ·have hex : ∃ y ∈ ls, 1024 < y.length := by
    unfold framesE at c1
    split at c1
    ·assumption
    ·exact absurd rfl c1
   refine W.seq (W.region (WL.move rfl rfl (WL.assign rfl rfl (WL.nil (WX.next (W.sub [(4, _)] (.cons rfl .nil) (W.ret (WX.thenRet (WX.ret1 rfl rfl ?_)))))))))
   have e1 : resetW h ⟨e, l, n, false⟩ k.d ls = (3, ⟨e, l, n, false⟩, k.d) := by unfold resetW; rw [if_neg hno, if_pos hex]
   have e2 : framesE ls = 3 := by unfold framesE; rw [if_pos hex]
   rw [e1, e2]
   exact ⟨rfl, ⟨g, k.g, Al, cl, xs, ⟨e, l, n, false⟩⟩, k, rfl, rfl, rfl, ⟨⟨hlo, hhi, hfits, hshort, hep, hn⟩, hxs⟩, rfl, rfl, hk, rfl, by omega, Mem.star3 (M.sel Sel.a)⟩
  ·have hnx : ¬ ∃ y ∈ ls, 1024 < y.length := by
    intro hex
    unfold framesE at c1
    rw [if_pos hex] at c1
    exact c1 (by decide)
   have hfv : framesV ls = framesB ls := by unfold framesV; rw [if_neg hnx]
   rw [hfv] at M ⊢
   have hshort2 : ∀ y ∈ ls, y.length ≤ 1024 := fun y hym => by
    rcases Nat.lt_or_ge 1024 y.length with h1 | h1
    ·exact absurd ⟨y, hym, h1⟩ hnx
    ·exact h1
   have hfew2 := framesB_few ls hshort2
   have hsh4 : ∀ y ∈ ys, y.l.length ≤ 1024 := fun y hym => hshort2 _ (by rw [hls]; exact List.mem_map.2 ⟨_, hym, rfl⟩)
   refine W.skip (WX.next (W.seq (W.seq (W.region (WL.move rfl rfl (WL.len Tryz.underlying84 rfl rfl (WL.move rfl rfl (WL.nilCheck rfl rfl (WL.fieldR (off := 0) Tryz.underlying91 rfl rfl Tryz.sizeOf32 rfl rfl rfl ?_)))))))))
   refine WL.loadR Tryz.isAgg32 rfl M Has.a rfl rfl (WL.call Tryz.call93 rfl (refHalf_ok k hk w0 w _ M Has.a (by omega)) rfl ?_)
   rintro _ _ ⟨rfl, hw⟩
   rw [hw]; clear hw
   rw [← hhd]
   refine WL.mul rfl rfl (by first | exact wI64 (by omega) | rfl) rfl ?_
   refine WL.gtr rfl rfl rfl (WL.moveIf rfl rfl (fun c2 => ?_) (fun c2 => ?_))
   ·refine WL.off rfl rfl rfl rfl (WL.off rfl rfl rfl rfl (WL.off rfl rfl rfl rfl (WL.off rfl rfl rfl rfl (WL.off rfl rfl rfl rfl (WL.off rfl rfl rfl rfl (WL.pickT rfl rfl rfl (WL.nil (WX.next (W.sub [(0, _), (1, _), (38, _)] (.cons rfl (.cons rfl (.cons rfl .nil))) (W.condT rfl (W.seq (W.region (WL.assign rfl rfl (WL.nil (WX.next (W.sub [(4, _)] (.cons rfl .nil) (W.ret (WX.thenRet (WX.ret1 rfl rfl ?_)))))))))))))))))))
    have e1 : resetW h ⟨e, l, n, false⟩ k.d ls = (5, ⟨e, l, n, false⟩, k.d) := by unfold resetW; rw [if_neg hno, if_neg hnx, if_pos (.inl (by omega))]
    rw [e1]
    exact ⟨rfl, ⟨g, k.g, Al, cl, xs, ⟨e, l, n, false⟩⟩, k, rfl, rfl, rfl, ⟨⟨hlo, hhi, hfits, hshort, hep, hn⟩, hxs⟩, rfl, rfl, hk, rfl, by omega, Mem.star3 (M.sel Sel.a)⟩
   ·refine WL.on rfl rfl (WL.move rfl rfl (WL.on rfl rfl (WL.nilCheck rfl rfl (WL.on rfl rfl (WL.fieldR (off := 1) Tryz.underlying91 rfl rfl Tryz.sizeOf47 rfl rfl rfl ?_)))))
    refine WL.on rfl rfl (WL.loadR Tryz.isAgg47 rfl M Has.a rfl rfl (WL.on rfl rfl (WL.add rfl rfl (by first | exact wU64 (by omega) | exact mU64 _ | rfl) rfl ?_)))
    refine WL.on rfl rfl (WL.eqI rfl rfl rfl (WL.pickF rfl rfl rfl (WL.nil (WX.next (W.sub [(0, _), (1, _), (38, _)] (.cons rfl (.cons rfl (.cons rfl .nil))) (W.ite rfl (fun c3 => ?_) (fun c3 => ?_)))))))
    ·refine W.seq (W.region (WL.assign rfl rfl (WL.nil (WX.next (W.sub [(4, _)] (.cons rfl .nil) (W.ret (WX.thenRet (WX.ret1 rfl rfl ?_))))))))
     have e1 : resetW h ⟨e, l, n, false⟩ k.d ls = (5, ⟨e, l, n, false⟩, k.d) := by unfold resetW; rw [if_neg hno, if_neg hnx, if_pos (.inr (by dsimp only; omega))]
     rw [e1]
     exact ⟨rfl, ⟨g, k.g, Al, cl, xs, ⟨e, l, n, false⟩⟩, k, rfl, rfl, rfl, ⟨⟨hlo, hhi, hfits, hshort, hep, hn⟩, hxs⟩, rfl, rfl, hk, rfl, by omega, Mem.star3 (M.sel Sel.a)⟩
    ·have hfl2 : (framesB ls).length ≤ 32 * h := by omega
     have he61 : e + 1 < 4611686018427387904 := by omega
     have hal : (areaB h ls).length = 32 * h := areaB_length hfl2
     have hno2 : ¬ (32 * h < (framesB ls).length ∨ e + 1 = 4611686018427387904) := by omega
     refine W.skip (WX.next (W.seq (W.drawM ([rwRow g k.g e Al xs.length cl n false]) (by kernel_rfl) (fun j => [4, 5, 8, 12, 13, 14].contains j) M Sel.a ?_)))
     clear M; intro M
     apply DG.pure_ [0, 1, 2, 3, 6, 7, 9, 10, 11] 8 rfl (by kernel_rfl) (by kernel_rfl)
     ·intro w
      refine WL.move rfl rfl (WL.move rfl rfl (WL.nilCheck rfl rfl (WL.fieldR (off := 1) Tryz.underlying91 rfl rfl Tryz.sizeOf47 rfl rfl rfl ?_)))
      refine WL.move rfl rfl (WL.move rfl rfl (WL.move rfl rfl (WL.nilCheck rfl rfl (WL.fieldR (off := 0) Tryz.underlying91 rfl rfl Tryz.sizeOf32 rfl rfl rfl ?_))))
      exact Chain.end_ rfl
     apply DG.take [4, 5, 12] 5 rfl (by kernel_rfl) (by kernel_rfl) (M.sel Sel.a)
     ·intro w M
      refine WL.loadR (v := .int .u64 (e : Int)) Tryz.isAgg47 rfl M Has.a rfl rfl ?_
      refine WL.add rfl rfl (by first | exact wU64 (by omega) | exact mU64 _ | rfl) rfl ?_
      refine WL.loadR (v := .pointer (some ⟨k.g, 0, none⟩)) Tryz.isAgg32 rfl M Has.a rfl rfl ?_
      exact Chain.end_ rfl
     refine DG.step 8 4 rfl (by kernel_rfl) ?_
     refine WL.call Tryz.call115 rfl (rwFull_ok (ys := ys) (g := g) w0 _ _ k hk (by omega) (by omega) hsh4 (by rw [← hls, ← hhd]; exact hfl2) M Has.a rfl (hr.at (M.sel Sel.a)) (fun y hyy => (hy y hyy).at (M.sel Sel.a)) Has.a) rfl ?_
     rintro _ w ⟨A7, c7, rfl, M⟩
     rw [← hls, ← hhd] at M ⊢
     obtain ⟨g7, rfl⟩ := M.ownSome (A := A7) (n := (areaB h ls).length) Has.a (by omega)
     refine DG.go (G := fun j => [4, 5, 8, 12, 13, 14].contains j) (i := 8) (f' := 4) (done := [0, 1, 2, 3, 6, 7, 9, 10, 11, 4, 5, 12]) (fun _ => M.sel Sel.a) ?_
     refine DG.step 13 3 rfl (by kernel_rfl) ?_
     refine WL.call Tryz.call93 rfl (refHalf_ok k hk w0 _ _ M Has.a (by omega)) rfl ?_
     rintro _ _ ⟨rfl, hw⟩
     rw [hw]; clear hw
     rw [← hhd]
     refine DG.go (G := fun j => [4, 5, 8, 12, 13, 14].contains j) (i := 13) (f' := 3) (done := [0, 1, 2, 3, 6, 7, 9, 10, 11, 4, 5, 12, 8]) (fun _ => M.sel Sel.a) ?_
     apply DG.take [14] 2 rfl (by kernel_rfl) (by kernel_rfl) (M.sel Sel.a)
     ·intro w M
      refine WL.sub' rfl rfl (by first | exact wI64 (by omega) | rfl) rfl ?_
      exact Chain.end_ rfl
     refine DG.step 15 1 rfl (by kernel_rfl) ?_
     rw [show ((h : Int) - 1) = ((h - 1 : Nat) : Int) by omega]
     refine WL.call Tryz.call116 rfl (rwLay_ok w0 _ _ _ _ k hk (e + 1) 0 (h - 1) (areaB h ls) (by rw [← hhd]; exact hal) h6 (by omega) (by omega) (by rw [← hhd]; omega) hwa M Del.a Del.a (by intro w M; exact M.rdB Has.a)) rfl ?_
     rintro _ w ⟨rfl, k2, q1, q2, q3, q4, q5, M⟩
     rw [← hhd, show h - 1 + 1 - 0 = h by omega] at q2 M ⊢
     refine DG.go (G := fun j => [4, 5, 8, 12, 13, 14].contains j) (i := 15) (f' := 1) (done := [0, 1, 2, 3, 6, 7, 9, 10, 11, 4, 5, 12, 8, 13, 14]) (fun h => by cases h) ?_
     apply DG.pure_ [16] 0 rfl (by kernel_rfl) (by kernel_rfl)
     ·intro w
      refine WL.assign rfl rfl ?_
      exact Chain.end_ rfl
     refine DG.end_ (by kernel_rfl) ?_
     refine WX.next (W.sub [(0, _), (1, _), (7, _)] (.cons rfl (.cons rfl (.cons rfl .nil))) (W.seq (W.seq ?_)))
     obtain ⟨r1, hr1⟩ : ∃ r, r = layD (firstN h (e + 1)) (areaB h ls) h 0 k.d := ⟨_, rfl⟩
     rw [← hr1] at q2 M ⊢
     refine W.region (WL.move rfl rfl (WL.eqI rfl rfl rfl (WL.nil (WX.next (W.sub [(0, _), (1, _), (7, _), (56, _)] (.cons rfl (.cons rfl (.cons rfl (.cons rfl .nil)))) (W.ite rfl (fun c4 => ?_) (fun c4 => ?_)))))))
     ·have hz1 : ¬ r1.1 ≠ 0 := by omega
      rw [decide_eq_false hz1] at M
      refine W.region (WL.move rfl rfl (WL.nilCheck rfl rfl (WL.fieldR (off := 0) Tryz.underlying91 rfl rfl Tryz.sizeOf32 rfl rfl rfl ?_)))
      refine WL.loadR (v := .pointer (some ⟨k2.g, 0, none⟩)) Tryz.isAgg32 rfl M Has.a (by rw [q1]; rfl) rfl ?_
      refine WL.call Tryz.call99 rfl (refSync_ok k2 w0 w _ _ q3 M Del.a) rfl ?_
      rintro _ w ⟨rfl, k3, p1, p2, M⟩
      have k3ok : k3.d.ok := by rw [p2]; exact Dk.sync_ok q3
      have k3len : k3.d.safe.length = k.d.safe.length := by rw [p2, Dk.sync_len]; exact q4
      have k3few : k3.d.waits.length ≤ k.d.waits.length + 1100 := by rw [p2]; have := Dk.sync_few k2.d; omega
      refine WL.assign rfl rfl (WL.nil (WX.next (W.sub [(0, _), (1, _), (7, _)] (.cons rfl (.cons rfl (.cons rfl .nil))) (W.seq (W.seq (W.region (WL.move rfl rfl (WL.eqI rfl rfl rfl (WL.nil (WX.next (W.sub [(0, _), (1, _), (7, _), (63, _)] (.cons rfl (.cons rfl (.cons rfl (.cons rfl .nil)))) (W.ite rfl (fun c5 => ?_) (fun c5 => ?_)))))))))))))
      ·have hz2 : ¬ k2.d.sync.1 ≠ 0 := by omega
       refine W.seq (W.region (WL.move rfl rfl (WL.nilCheck rfl rfl (WL.fieldR (off := 1) Tryz.underlying91 rfl rfl Tryz.sizeOf47 rfl rfl rfl ?_))))
       refine WL.loadR Tryz.isAgg47 rfl M Has.a rfl rfl (WL.add rfl rfl (by first | exact wU64 (by omega) | exact mU64 _ | rfl) rfl ?_)
       refine WL.call Tryz.call102 rfl (refPutUint_ok (e + 1) (by omega) _) rfl ?_
       rintro _ w ⟨A5, c5', rfl, m⟩
       replace M := M.call1 m; clear m
       refine WL.call Tryz.call131 rfl (refPut_ok 1 (put (e + 1)) A5 c5' _ (by first | first | with_reducible assumption | with_reducible exact RdB.mem (by with_reducible assumption) M | exact M.rdB Has.a | exact RdH.at (by assumption) (M.sel Sel.a) | exact M.rdLit' Has.a | exact M.rdLent Has.a | exact RdB.nil _ _ | exact RdB.sub (by first | with_reducible assumption | with_reducible exact RdB.mem (by with_reducible assumption) M | exact M.rdB Has.a | exact RdH.at (by assumption) (M.sel Sel.a) | exact M.rdLit' Has.a | exact M.rdLent Has.a | exact RdB.nil _ _) (by omega) (by omega) | exact RdB.pre' (by first | with_reducible assumption | with_reducible exact RdB.mem (by with_reducible assumption) M | exact M.rdB Has.a | exact RdH.at (by assumption) (M.sel Sel.a) | exact M.rdLit' Has.a | exact M.rdLent Has.a | exact RdB.nil _ _) (by omega) | exact RdB.suf (by first | with_reducible assumption | with_reducible exact RdB.mem (by with_reducible assumption) M | exact M.rdB Has.a | exact RdH.at (by assumption) (M.sel Sel.a) | exact M.rdLit' Has.a | exact M.rdLent Has.a | exact RdB.nil _ _) (by omega))) rfl ?_
       rintro _ w ⟨A6, c6', rfl, m⟩
       replace M := M.call1 m; clear m
       refine WL.move rfl rfl (WL.extractL rfl rfl rfl (WL.extractL rfl rfl rfl (WL.assign rfl rfl (WL.assign rfl rfl (WL.nil (WX.next (W.sub [(0, _), (1, _), (8, _)] (.cons rfl (.cons rfl (.cons rfl .nil))) (W.seq (W.block ?_)))))))))
       refine W.loop (ι := Nat × Option Addr × Nat) (fun z => [(0, .pointer (some ⟨g, 0, none⟩)), (1, .slice A ys.length cap), (8, .slice z.2.1 (putG 1 (put (e + 1)) ++ List.replicate z.1 0).length z.2.2)]) (fun zz w => Mem w0 w ((fun z => Asr.own 5 1 z.2.1 (putG 1 (put (e + 1)) ++ List.replicate z.1 0).length z.2.2 (bs (putG 1 (put (e + 1)) ++ List.replicate z.1 0)) :: rwRow g k.g e Al xs.length cl n false :: Asr.lst oxE Al cl xs :: Asr.star (xs.map OX.O) :: k3.O :: L2) zz) ∧ (fun z => (putG 1 (put (e + 1))).length + z.1 ≤ 32) zz) (fun z => 32 - z.1) ((0, A6, c6')) (by rw [List.replicate_zero, List.append_nil]; exact .cons rfl (.cons rfl (.cons rfl .nil))) ⟨(by dsimp only; rw [List.replicate_zero, List.append_nil]; exact M.sel Sel.a), (by dsimp only; omega)⟩ ?_
       clear M; rintro (⟨j, A2, q2'⟩) w ⟨M, hj⟩; dsimp only at M hj ⊢
       refine W.sub [(0, _), (1, _), (8, _)] (.cons rfl (.cons rfl (.cons rfl .nil))) (W.seq (W.seq (W.region (WL.move rfl rfl (WL.len Tryz.underlying84 rfl rfl ?_)))))
       have hfl : (putG 1 (put (e + 1)) ++ List.replicate j (0 : UInt8)).length = (putG 1 (put (e + 1))).length + j := by rw [List.length_append, List.length_replicate]
       refine WL.lss rfl rfl rfl (WL.nil (WX.next (W.sub [(0, _), (1, _), (8, _), (76, _)] (.cons rfl (.cons rfl (.cons rfl (.cons rfl .nil)))) (W.ite rfl (fun c6 => ?_) (fun c6 => ?_)))))
       ·refine W.skip (WX.next (W.block (W.region (WL.move rfl rfl ?_))))
        refine WL.buildB (es := [_]) Tryz.elem5 M rfl rfl (by apply BytesOf.lit (b := 0) (by decide); exact BytesOf.nil) (by rfl) rfl rfl ?_
        intro g15_1 w M
        refine WL.appendBH Tryz.elem5 rfl rfl M Del.a (by first | first | with_reducible assumption | with_reducible exact RdB.mem (by with_reducible assumption) M | exact M.rdB Has.a | exact RdH.at (by assumption) (M.sel Sel.a) | exact M.rdLit' Has.a | exact M.rdLent Has.a | exact RdB.nil _ _ | exact RdB.sub (by first | with_reducible assumption | with_reducible exact RdB.mem (by with_reducible assumption) M | exact M.rdB Has.a | exact RdH.at (by assumption) (M.sel Sel.a) | exact M.rdLit' Has.a | exact M.rdLent Has.a | exact RdB.nil _ _) (by omega) (by omega) | exact RdB.pre' (by first | with_reducible assumption | with_reducible exact RdB.mem (by with_reducible assumption) M | exact M.rdB Has.a | exact RdH.at (by assumption) (M.sel Sel.a) | exact M.rdLit' Has.a | exact M.rdLent Has.a | exact RdB.nil _ _) (by omega) | exact RdB.suf (by first | with_reducible assumption | with_reducible exact RdB.mem (by with_reducible assumption) M | exact M.rdB Has.a | exact RdH.at (by assumption) (M.sel Sel.a) | exact M.rdLit' Has.a | exact M.rdLent Has.a | exact RdB.nil _ _) (by omega)) rfl rfl (by first | omega | (simp; done) | (simp; omega)) rfl ?_
        intro A15_2 cap15_2 w M
        refine WL.assign rfl rfl (WL.nil (WX.blockNormal ?_))
        skip
        have q : putG 1 (put (e + 1)) ++ List.replicate j (0 : UInt8) ++ [0] = putG 1 (put (e + 1)) ++ List.replicate (j + 1) 0 := by rw [List.append_assoc, List.replicate_succ']
        rw [q] at M ⊢
        refine WX.round ((j + 1, A15_2, cap15_2)) envSub.sf ⟨M.sel Sel.a, (by dsimp only; omega)⟩ (by first | omega | (dsimp only; omega))
       ·have hfl : (putG 1 (put (e + 1)) ++ List.replicate j (0 : UInt8)).length = (putG 1 (put (e + 1))).length + j := by rw [List.length_append, List.length_replicate]
        have hj32 : j = 32 - (putG 1 (put (e + 1))).length := by omega
        have hl32 : (putG 1 (put (e + 1)) ++ List.replicate j (0 : UInt8)).length = 32 := by omega
        have hsec : (headSec (e + 1)).l = putG 1 (put (e + 1)) ++ List.replicate j 0 := by rw [hs1, hj32]
        rw [← hsec] at M ⊢
        rw [show (headSec (e + 1)).l.length = 32 from (headSec (e + 1)).h] at M ⊢
        refine W.exit (WX.thenExit (WX.thenExit (WX.blockHere (WX.next (W.drawM ([rwRow g k.g e Al xs.length cl n false]) (by kernel_rfl) (fun j => [3, 7, 8, 9, 10].contains j) M Sel.a ?_)))))
        clear M; intro M
        apply DG.pure_ [0, 1, 2, 4, 5, 6, 11] 7 rfl (by kernel_rfl) (by kernel_rfl)
        ·intro w
         refine WL.move rfl rfl (WL.nilCheck rfl rfl (WL.fieldR (off := 0) Tryz.underlying91 rfl rfl Tryz.sizeOf32 rfl rfl rfl ?_))
         refine WL.move rfl rfl (WL.nilCheck rfl rfl (WL.fieldR (off := 1) Tryz.underlying91 rfl rfl Tryz.sizeOf47 rfl rfl rfl ?_))
         refine WL.move rfl rfl ?_
         exact Chain.end_ rfl
        apply DG.take [3, 7, 8, 9, 10] 2 rfl (by kernel_rfl) (by kernel_rfl) (M.sel Sel.a)
        ·intro w M
         refine WL.loadR (v := .pointer (some ⟨k3.g, 0, none⟩)) Tryz.isAgg32 rfl M Has.a (by rw [p1, q1]; rfl) rfl ?_
         refine WL.loadR (v := .int .u64 (e : Int)) Tryz.isAgg47 rfl M Has.a rfl rfl ?_
         refine WL.add rfl rfl (by first | exact wU64 (by omega) | exact mU64 _ | rfl) rfl ?_
         refine WL.rem rfl rfl (by omega) (remN (by omega)) rfl ?_
         refine WL.conv Tryz.underlying47 Tryz.underlying3 rfl (by first | exact wI64 (by omega) | rfl) rfl ?_
         exact Chain.end_ rfl
        refine DG.step 12 1 rfl (by kernel_rfl) ?_
        rw [show (((e : Int) + 1) % 2) = (((e + 1) % 2 : Nat) : Int) by push_cast; rfl]
        refine WL.call Tryz.call98 rfl (refWrite_ok k3 w0 _ _ _ k3ok ((e + 1) % 2) (by omega) (headSec (e + 1)) A2 q2' M Del.a (by intro w M; exact M.rdB (by rw [(headSec (e + 1)).h]; exact Has.a))) rfl ?_
        rintro _ w ⟨rfl, k4, t1, t2, M⟩
        have k4ok : k4.d.ok := by rw [t2]; exact Dk.write_ok k3ok _ (by omega) (by omega)
        have k4len : k4.d.safe.length = k.d.safe.length := by rw [t2, Dk.write_len]; exact k3len
        have k4few : k4.d.waits.length ≤ k.d.waits.length + 1101 := by rw [t2]; have := Dk.write_few k3.d ((e + 1) % 2) (headSec (e + 1)); omega
        refine DG.go (G := fun j => [3, 7, 8, 9, 10].contains j) (i := 12) (f' := 1) (done := [0, 1, 2, 4, 5, 6, 11, 3, 7, 8, 9, 10]) (fun h => by cases h) ?_
        apply DG.pure_ [13] 0 rfl (by kernel_rfl) (by kernel_rfl)
        ·intro w
         refine WL.assign rfl rfl ?_
         exact Chain.end_ rfl
        refine DG.end_ (by kernel_rfl) ?_
        refine WX.next (W.sub [(0, _), (1, _), (7, _)] (.cons rfl (.cons rfl (.cons rfl .nil))) (W.seq (W.seq (W.region (WL.move rfl rfl (WL.eqI rfl rfl rfl (WL.nil (WX.next (W.sub [(0, _), (1, _), (7, _), (94, _)] (.cons rfl (.cons rfl (.cons rfl (.cons rfl .nil)))) (W.ite rfl (fun c7 => ?_) (fun c7 => ?_)))))))))))
        ·have hz3 : ¬ (k3.d.write ((e + 1) % 2) (headSec (e + 1))).1 ≠ 0 := by omega
         refine W.region (WL.move rfl rfl (WL.nilCheck rfl rfl (WL.fieldR (off := 0) Tryz.underlying91 rfl rfl Tryz.sizeOf32 rfl rfl rfl ?_)))
         refine WL.loadR (v := .pointer (some ⟨k4.g, 0, none⟩)) Tryz.isAgg32 rfl M Has.a (by rw [t1, p1, q1]; rfl) rfl ?_
         refine WL.call Tryz.call99 rfl (refSync_ok k4 w0 w _ _ k4ok M Del.a) rfl ?_
         rintro _ w ⟨rfl, k5, v1, v2, M⟩
         have e0 : turnW h (e + 1) ls k.d = k4.d.sync := by
          unfold turnW
          rw [← hr1, if_neg hz1, ← q2, if_neg hz2, ← p2, if_neg hz3, ← t2]
         have k5ok : k5.d.ok := by rw [v2]; exact Dk.sync_ok k4ok
         have k5len : k5.d.safe.length = k.d.safe.length := by rw [v2, Dk.sync_len]; exact k4len
         have k5few : k5.d.waits.length ≤ k.d.waits.length + 1200 := by rw [v2]; have := Dk.sync_few k4.d; omega
         refine WL.assign rfl rfl (WL.nil (WX.next (W.sub [(0, _), (1, _), (7, _)] (.cons rfl (.cons rfl (.cons rfl .nil))) (W.seq (W.seq (W.region (WL.move rfl rfl (WL.neI rfl rfl rfl (WL.nil (WX.next (W.sub [(0, _), (1, _), (7, _), (101, _)] (.cons rfl (.cons rfl (.cons rfl (.cons rfl .nil)))) (W.ite rfl (fun c8 => ?_) (fun c8 => ?_)))))))))))))
         ·have hz4 : k4.d.sync.1 ≠ 0 := by omega
          refine W.seq (W.region (WL.move rfl rfl (WL.nilCheck rfl rfl (WL.fieldR (off := 4) Tryz.underlying91 rfl rfl Tryz.sizeOf4 rfl rfl rfl ?_))))
          refine WL.storeR Tryz.sizeOf4 rfl rfl rfl M Has.a (by repeat (first | exact SetAt.zero | apply SetAt.succ)) Upd.a ?_
          intro w M
          refine WL.nil (WX.next (W.sub [(7, _)] (.cons rfl .nil) (W.seq (W.region (WL.move rfl rfl (WL.assign rfl rfl (WL.nil (WX.next (W.sub [(4, _)] (.cons rfl .nil) (W.ret (WX.thenRet (WX.ret1 rfl rfl ?_))))))))))))
          have e1 : resetW h ⟨e, l, n, false⟩ k.d ls = (k4.d.sync.1, ⟨e, l, n, true⟩, k4.d.sync.2) := by
           unfold resetW
           rw [if_neg hno, if_neg hnx, if_neg hno2]
           dsimp only
           rw [e0, if_pos hz4]
          rw [e1]
          exact ⟨rfl, ⟨g, k.g, Al, cl, xs, ⟨e, l, n, true⟩⟩, k5, rfl, rfl, rfl, ⟨⟨hlo, hhi, hfits, hshort, hep, hn⟩, hxs⟩, by rw [v1, t1, p1, q1], v2, k5ok, k5len, k5few, Mem.star3 (M.sel Sel.a)⟩
         ·have hz4 : ¬ k4.d.sync.1 ≠ 0 := by omega
          have e1 : resetW h ⟨e, l, n, false⟩ k.d ls = (0, ⟨e + 1, ls, ls.length, false⟩, k4.d.sync.2) := by
           unfold resetW
           rw [if_neg hno, if_neg hnx, if_neg hno2]
           dsimp only
           rw [e0, if_neg hz4]
          refine W.skip (WX.next (W.seq (W.region (WL.move rfl rfl (WL.nilCheck rfl rfl (WL.fieldR (off := 1) Tryz.underlying91 rfl rfl Tryz.sizeOf47 rfl rfl rfl ?_))))))
          refine WL.loadR Tryz.isAgg47 rfl M Has.a rfl rfl (WL.add rfl rfl (by first | exact wU64 (by omega) | exact mU64 _ | rfl) rfl ?_)
          refine WL.nilCheck rfl rfl (WL.fieldR (off := 1) Tryz.underlying91 rfl rfl Tryz.sizeOf47 rfl rfl rfl ?_)
          refine WL.storeR Tryz.sizeOf47 rfl rfl rfl M Has.a (by repeat (first | exact SetAt.zero | apply SetAt.succ)) Upd.a ?_
          intro w M
          refine WL.nil (WX.next (W.sub [(0, _), (1, _)] (.cons rfl (.cons rfl .nil)) (W.seq (W.region (WL.move rfl rfl (WL.nilCheck rfl rfl (WL.fieldR (off := 2) Tryz.underlying91 rfl rfl Tryz.sizeOf82 rfl rfl rfl ?_)))))))
          refine WL.storeR Tryz.sizeOf82 rfl rfl rfl M Has.a (by repeat (first | exact SetAt.zero | apply SetAt.succ)) Upd.a ?_
          intro w M
          refine WL.nil (WX.next (W.sub [(0, _), (1, _)] (.cons rfl (.cons rfl .nil)) (W.seq (W.seq (W.region (WL.assign rfl rfl (WL.nil (WX.next (W.sub [(0, _), (1, _), (10, _)] (.cons rfl (.cons rfl (.cons rfl .nil))) (W.block (W.loop (ι := Nat × Option Addr × Nat × List OX) (fun z => [(0, .pointer (some ⟨g, 0, none⟩)), (1, .slice A ys.length cap), (10, .int .i64 (z.1 : Int))]) (fun zz w => Mem w0 w ((fun z => rwRow g k.g (e + 1) z.2.1 z.2.2.2.length z.2.2.1 n false :: Asr.lst oxE z.2.1 z.2.2.1 z.2.2.2 :: Asr.star (z.2.2.2.map OX.O) :: k5.O :: L2) zz) ∧ (fun z => z.1 ≤ ys.length ∧ z.2.2.2.map OX.l = ls.take z.1) zz) (fun z => ys.length - z.1) ((0, none, 0, [])) envSub.sf ⟨((Mem.nilOwn (Mem.starNil M) 84 1).sel Sel.a), ⟨Nat.zero_le _, by simp⟩⟩ ?_)))))))))))
          clear M; rintro (⟨i, An, cn, zs⟩) w ⟨M, ⟨hi, hzs⟩⟩; dsimp only at M hi hzs ⊢
          refine W.sub [(0, _), (1, _), (10, _)] (.cons rfl (.cons rfl (.cons rfl .nil))) (W.seq (W.seq (W.region (WL.move rfl rfl (WL.move rfl rfl (WL.len Tryz.underlying82 rfl rfl (WL.lss rfl rfl rfl (WL.nil (WX.next (W.sub [(0, _), (1, _), (10, _), (119, _)] (.cons rfl (.cons rfl (.cons rfl (.cons rfl .nil)))) (W.ite rfl (fun c9 => ?_) (fun c9 => ?_))))))))))))
          ·have hil : i < ys.length := by omega
           have hyi := hyb _ (el_mem hil)
           have hzl : zs.length = i := by have := congrArg List.length hzs; rw [List.length_map, List.length_take, hlsl] at this; omega
           have htk : ls.take (i + 1) = ls.take i ++ [(el ys i).l] := by
            rw [List.take_succ_eq_append_getElem (by omega)]
            congr 2
            rw [show ls[i]'(by omega) = el ls i by simp [el, show i < ls.length by omega]]
            rw [hls]
            simp [el, hil]
           refine W.skip (WX.next (W.seq (W.block (W.drawM (rwRow g k.g (e + 1) An zs.length cn n false :: L2) (by kernel_rfl) (fun j => [4, 8, 9, 10].contains j) M Sel.a ?_))))
           clear M; intro M
           apply DG.pure_ [0, 1, 2, 3, 5, 6, 7] 8 rfl (by kernel_rfl) (by kernel_rfl)
           ·intro w
            refine WL.move rfl rfl (WL.move rfl rfl (WL.nilCheck rfl rfl (WL.fieldR (off := 2) Tryz.underlying91 rfl rfl Tryz.sizeOf82 rfl rfl rfl ?_)))
            refine WL.move rfl rfl (WL.move rfl rfl (WL.idxA Tryz.underlying82 Tryz.sizeOf84 rfl rfl (RdL.isSome (E := oxE) (by first | with_reducible assumption | with_reducible exact RdL.mem (by with_reducible assumption) M | exact M.rdL Has.a | exact RdLH.at (by assumption) (M.sel Sel.a) | exact RdL.nil _ _ _) (by omega)) (by omega) (by omega) (by first | exact rfl | exact (Int.toNat_of_nonneg (by omega)).symm) rfl ?_))
            exact Chain.end_ rfl
           apply DG.take [4, 8] 6 rfl (by kernel_rfl) (by kernel_rfl) (M.sel Sel.a)
           ·intro w M
            refine WL.loadR Tryz.isAgg82 rfl M Has.a rfl rfl (WL.loadE0 (E := oxE) Tryz.isAgg84 rfl (hr.at (M.sel Sel.a)) (by omega) rfl rfl ?_)
            exact Chain.end_ rfl
           refine DG.step 9 5 rfl (by kernel_rfl) ?_
           refine WL.call Tryz.call97 rfl (Copy_ok ((hy _ (el_mem hil)).at (M.sel Sel.a)) (by omega)) rfl ?_
           rintro _ w ⟨A10, c10', rfl, m⟩
           replace M := M.call1 m; clear m
           refine DG.go (G := fun j => [4, 8, 9, 10].contains j) (i := 9) (f' := 5) (done := [0, 1, 2, 3, 5, 6, 7, 4, 8]) (fun _ => M.sel Sel.a) ?_
           refine DG.step 10 4 rfl (by kernel_rfl) ?_
           refine WL.buildL (E := oxE) (l := [(⟨A10, c10', (el ys i).l⟩ : OX)]) Tryz.elem84 M rfl rfl rfl rfl rfl rfl ?_
           intro g27_10 w M
           refine DG.go (G := fun j => [4, 8, 9, 10].contains j) (i := 10) (f' := 4) (done := [0, 1, 2, 3, 5, 6, 7, 4, 8, 9]) (fun _ => M.sel Sel.a) ?_
           refine DG.step 11 3 rfl (by kernel_rfl) ?_
           refine WL.appendL (E := oxE) Tryz.elem84 rfl rfl M Del.a (by first | with_reducible assumption | with_reducible exact RdL.mem (by with_reducible assumption) M | exact M.rdL Has.a | exact RdLH.at (by assumption) (M.sel Sel.a) | exact RdL.nil _ _ _) rfl rfl (by first | omega | (simp; done) | (simp; omega)) (by first | (simp only [maxLen]; omega) | (simp [maxLen]; done) | (simp [maxLen]; omega)) rfl ?_
           intro A27_11 cap27_11 w M
           refine DG.go (G := fun j => [4, 8, 9, 10].contains j) (i := 11) (f' := 3) (done := [0, 1, 2, 3, 5, 6, 7, 4, 8, 9, 10]) (fun h => by cases h) ?_
           apply DG.pure_ [12, 13] 1 rfl (by kernel_rfl) (by kernel_rfl)
           ·intro w
            refine WL.nilCheck rfl rfl (WL.fieldR (off := 2) Tryz.underlying91 rfl rfl Tryz.sizeOf82 rfl rfl rfl ?_)
            exact Chain.end_ rfl
           refine DG.step 14 0 rfl (by kernel_rfl) ?_
           refine WL.storeR Tryz.sizeOf82 rfl rfl rfl M Has.a (by repeat (first | exact SetAt.zero | apply SetAt.succ)) Upd.a ?_
           intro w M
           refine DG.go (G := fun j => [4, 8, 9, 10].contains j) (i := 14) (f' := 0) (done := [0, 1, 2, 3, 5, 6, 7, 4, 8, 9, 10, 11, 12, 13]) (fun h => by cases h) ?_
           refine DG.end_ (by kernel_rfl) ?_
           refine WX.blockNormal (WX.next (W.sub [(0, _), (1, _), (10, _)] (.cons rfl (.cons rfl (.cons rfl .nil))) (W.region (WL.move rfl rfl (WL.add rfl rfl (by first | exact wI64 (by omega) | rfl) rfl ?_)))))
           refine WL.assign rfl rfl (WL.nil ?_)
           skip
           obtain ⟨zs2, hzs2⟩ : ∃ zs2, zs2 = zs ++ [(⟨A10, c10', (el ys i).l⟩ : OX)] := ⟨_, rfl⟩
           have q : zs2.map OX.l = ls.take (i + 1) := by rw [htk, hzs2, List.map_append, hzs]; rfl
           have M2 : Mem w0 w (Asr.star (zs2.map OX.O) :: rwRow g k.g (e + 1) A27_11 zs2.length cap27_11 n false :: Asr.lst oxE A27_11 cap27_11 zs2 :: k5.O :: L2) := by
            rw [hzs2, List.map_append]
            refine Mem.starSnoc ?_
            exact M.sel Sel.a
           replace M := M2
           refine WX.round ((i + 1, A27_11, cap27_11, zs2)) envSub.sf ⟨M.sel Sel.a, ⟨by dsimp only; omega, q⟩⟩ (by first | omega | (dsimp only; omega))
          ·obtain rfl : i = ys.length := by omega
           rw [List.take_of_length_le (by omega)] at hzs
           have hzl : zs.length = ys.length := by have := congrArg List.length hzs; rw [List.length_map, hlsl] at this; exact this
           refine W.exit (WX.thenExit (WX.thenExit (WX.blockHere (WX.next (W.seq (W.region (WL.move rfl rfl (WL.move rfl rfl (WL.len Tryz.underlying82 rfl rfl (WL.nilCheck rfl rfl (WL.fieldR (off := 3) Tryz.underlying91 rfl rfl Tryz.sizeOf3 rfl rfl rfl ?_)))))))))))
           refine WL.storeR Tryz.sizeOf3 rfl rfl rfl M Has.a (by repeat (first | exact SetAt.zero | apply SetAt.succ)) Upd.a ?_
           intro w M
           refine WL.nil (WX.next (W.sub [] .nil (W.seq (W.region (WL.assign rfl rfl (WL.nil (WX.next (W.sub [(4, _)] (.cons rfl .nil) (W.ret (WX.ret1 rfl rfl ?_))))))))))
           rw [e1]
           refine ⟨rfl, ⟨g, k.g, An, cn, zs, ⟨e + 1, ls, ls.length, false⟩⟩, k5, rfl, rfl, rfl, ⟨⟨hlo, hhi, by unfold usedW; dsimp only; omega, hshort2, by dsimp only; omega, Nat.le_refl _⟩, hzs⟩, by rw [v1, t1, p1, q1], v2, k5ok, k5len, k5few, ?_⟩
           unfold RwX.O
           dsimp only
           rw [hlsl]
           exact Mem.star3 (M.sel Sel.a)
        ·have hz3 : (k3.d.write ((e + 1) % 2) (headSec (e + 1))).1 ≠ 0 := by omega
         refine W.skip (WX.next (W.seq (W.seq (W.region (WL.move rfl rfl (WL.neI rfl rfl rfl (WL.nil (WX.next (W.sub [(0, _), (1, _), (7, _), (101, _)] (.cons rfl (.cons rfl (.cons rfl (.cons rfl .nil)))) (W.ite rfl (fun c8 => ?_) (fun c8 => ?_)))))))))))
         ·refine W.seq (W.region (WL.move rfl rfl (WL.nilCheck rfl rfl (WL.fieldR (off := 4) Tryz.underlying91 rfl rfl Tryz.sizeOf4 rfl rfl rfl ?_))))
          refine WL.storeR Tryz.sizeOf4 rfl rfl rfl M Has.a (by repeat (first | exact SetAt.zero | apply SetAt.succ)) Upd.a ?_
          intro w M
          refine WL.nil (WX.next (W.sub [(7, _)] (.cons rfl .nil) (W.seq (W.region (WL.move rfl rfl (WL.assign rfl rfl (WL.nil (WX.next (W.sub [(4, _)] (.cons rfl .nil) (W.ret (WX.thenRet (WX.ret1 rfl rfl ?_))))))))))))
          have e0 : turnW h (e + 1) ls k.d = k3.d.write ((e + 1) % 2) (headSec (e + 1)) := by
           unfold turnW
           rw [← hr1, if_neg hz1, ← q2, if_neg hz2, ← p2, if_pos hz3]
          have e1 : resetW h ⟨e, l, n, false⟩ k.d ls = ((k3.d.write ((e + 1) % 2) (headSec (e + 1))).1, ⟨e, l, n, true⟩, (k3.d.write ((e + 1) % 2) (headSec (e + 1))).2) := by
           unfold resetW
           rw [if_neg hno, if_neg hnx, if_neg hno2]
           dsimp only
           rw [e0, if_pos hz3]
          rw [e1]
          exact ⟨rfl, ⟨g, k.g, Al, cl, xs, ⟨e, l, n, true⟩⟩, k4, rfl, rfl, rfl, ⟨⟨hlo, hhi, hfits, hshort, hep, hn⟩, hxs⟩, by rw [t1, p1, q1], t2, k4ok, k4len, by omega, Mem.star3 (M.sel Sel.a)⟩
         ·exact absurd c7 c8
      ·have hz2 : k2.d.sync.1 ≠ 0 := by omega
       refine W.skip (WX.next (W.seq (W.seq (W.region (WL.move rfl rfl (WL.eqI rfl rfl rfl (WL.nil (WX.next (W.sub [(0, _), (1, _), (7, _), (94, _)] (.cons rfl (.cons rfl (.cons rfl (.cons rfl .nil)))) (W.ite rfl (fun c7 => ?_) (fun c7 => ?_)))))))))))
       ·exact absurd c7 c5
       ·refine W.skip (WX.next (W.seq (W.seq (W.region (WL.move rfl rfl (WL.neI rfl rfl rfl (WL.nil (WX.next (W.sub [(0, _), (1, _), (7, _), (101, _)] (.cons rfl (.cons rfl (.cons rfl (.cons rfl .nil)))) (W.ite rfl (fun c8 => ?_) (fun c8 => ?_)))))))))))
        ·refine W.seq (W.region (WL.move rfl rfl (WL.nilCheck rfl rfl (WL.fieldR (off := 4) Tryz.underlying91 rfl rfl Tryz.sizeOf4 rfl rfl rfl ?_))))
         refine WL.storeR Tryz.sizeOf4 rfl rfl rfl M Has.a (by repeat (first | exact SetAt.zero | apply SetAt.succ)) Upd.a ?_
         intro w M
         refine WL.nil (WX.next (W.sub [(7, _)] (.cons rfl .nil) (W.seq (W.region (WL.move rfl rfl (WL.assign rfl rfl (WL.nil (WX.next (W.sub [(4, _)] (.cons rfl .nil) (W.ret (WX.thenRet (WX.ret1 rfl rfl ?_))))))))))))
         have e0 : turnW h (e + 1) ls k.d = k2.d.sync := by
          unfold turnW
          rw [← hr1, if_neg hz1, ← q2, if_pos hz2]
         have e1 : resetW h ⟨e, l, n, false⟩ k.d ls = (k2.d.sync.1, ⟨e, l, n, true⟩, k2.d.sync.2) := by
          unfold resetW
          rw [if_neg hno, if_neg hnx, if_neg hno2]
          dsimp only
          rw [e0, if_pos hz2]
         rw [e1]
         exact ⟨rfl, ⟨g, k.g, Al, cl, xs, ⟨e, l, n, true⟩⟩, k3, rfl, rfl, rfl, ⟨⟨hlo, hhi, hfits, hshort, hep, hn⟩, hxs⟩, by rw [p1, q1], p2, k3ok, k3len, by omega, Mem.star3 (M.sel Sel.a)⟩
        ·exact absurd c5 c8
     ·have hz1 : r1.1 ≠ 0 := by omega
      rw [decide_eq_true hz1] at M
      refine W.skip (WX.next (W.seq (W.seq (W.region (WL.move rfl rfl (WL.eqI rfl rfl rfl (WL.nil (WX.next (W.sub [(0, _), (1, _), (7, _), (63, _)] (.cons rfl (.cons rfl (.cons rfl (.cons rfl .nil)))) (W.ite rfl (fun c5 => ?_) (fun c5 => ?_)))))))))))
      ·exact absurd c5 c4
      ·refine W.skip (WX.next (W.seq (W.seq (W.region (WL.move rfl rfl (WL.eqI rfl rfl rfl (WL.nil (WX.next (W.sub [(0, _), (1, _), (7, _), (94, _)] (.cons rfl (.cons rfl (.cons rfl (.cons rfl .nil)))) (W.ite rfl (fun c7 => ?_) (fun c7 => ?_)))))))))))
       ·exact absurd c7 c4
       ·refine W.skip (WX.next (W.seq (W.seq (W.region (WL.move rfl rfl (WL.neI rfl rfl rfl (WL.nil (WX.next (W.sub [(0, _), (1, _), (7, _), (101, _)] (.cons rfl (.cons rfl (.cons rfl (.cons rfl .nil)))) (W.ite rfl (fun c8 => ?_) (fun c8 => ?_)))))))))))
        ·refine W.seq (W.region (WL.move rfl rfl (WL.nilCheck rfl rfl (WL.fieldR (off := 4) Tryz.underlying91 rfl rfl Tryz.sizeOf4 rfl rfl rfl ?_))))
         refine WL.storeR Tryz.sizeOf4 rfl rfl rfl M Has.a (by repeat (first | exact SetAt.zero | apply SetAt.succ)) Upd.a ?_
         intro w M
         refine WL.nil (WX.next (W.sub [(7, _)] (.cons rfl .nil) (W.seq (W.region (WL.move rfl rfl (WL.assign rfl rfl (WL.nil (WX.next (W.sub [(4, _)] (.cons rfl .nil) (W.ret (WX.thenRet (WX.ret1 rfl rfl ?_))))))))))))
         have e0 : turnW h (e + 1) ls k.d = r1 := by
          unfold turnW
          rw [← hr1, if_pos hz1]
         have e1 : resetW h ⟨e, l, n, false⟩ k.d ls = (r1.1, ⟨e, l, n, true⟩, r1.2) := by
          unfold resetW
          rw [if_neg hno, if_neg hnx, if_neg hno2]
          dsimp only
          rw [e0, if_pos hz1]
         rw [e1]
         exact ⟨rfl, ⟨g, k.g, Al, cl, xs, ⟨e, l, n, true⟩⟩, k2, rfl, rfl, rfl, ⟨⟨hlo, hhi, hfits, hshort, hep, hn⟩, hxs⟩, q1, q2, q3, q4, by omega, Mem.star3 (M.sel Sel.a)⟩
        ·exact absurd c4 c8
end
end Go.Proofs.YtlminileigfkcaaGreat
namespace Go.Proofs.YtlminileigfkcaaGreat
open Go Go.RowKit Go.Lib Crc Bin
theorem refGet32 (s : Sec) (A : Option Addr) (cap : Nat) (w : World) (h : RdB w A cap s.l) : Fn Tryz.prog 61 [.slice A 32 cap, .int .i64 0] w fun v w' => Got v (getG s.l 0) w w' := by
 have hs := s.h
 have h1 := refGet_ok s.l A cap 0 w h (by omega) (by omega)
 rw [hs] at h1
 exact h1
section
variable (k : RdX) (w0 w : World) (L L' : List Asr)
set_option maxHeartbeats 1000000 in
set_option maxRecDepth 10000 in
theorem rwHead_ok (hk : k.d.ok) (hdn : k.d.down = false) (a : Nat) (ha : a < k.d.safe.length) (M : Mem w0 w L) (hd : Del k.O L L') : Fn Tryz.prog 59 [.pointer (some ⟨k.g, 0, none⟩), .int .i64 (a : Int)] w fun v w' => ∃ m : Nat, v = .tuple #[.int .u64 (m : Int), .bool (headD k.d a).isSome] ∧ (∀ n, headD k.d a = some n → m = n) ∧ Mem w0 w' (k.O :: L') := by
 have hln := hk.len
 have hl32 := (el k.d.now a).h
 obtain ⟨kd, b, to, e, hg⟩ : ∃ kd b to e, getG (el k.d.now a).l 0 = (kd, b, to, e) := ⟨_, _, _, _, rfl⟩
 have hbl := getG_len (el k.d.now a).l 0
 rw [hg] at hbl
 dsimp only at hbl
 refine Fn.enter Tryz.func59 rfl Tryz.ntmps59 rfl (W.sub [(0, _), (1, _)] (.cons rfl (.cons rfl .nil)) (W.seq (W.region (WL.assign rfl rfl (WL.assign rfl rfl (WL.nil (WX.next (W.sub [(0, _), (1, _)] (.cons rfl (.cons rfl .nil)) (W.seq (W.region (WL.move rfl rfl (WL.move rfl rfl (WL.call Tryz.call92 rfl (refRead_ok k w0 w _ _ hk hdn a ha M hd) rfl ?_)))))))))))))
 rintro _ w ⟨g1, sp1, cap1, hc1, rfl, M⟩
 refine WL.move rfl rfl (WL.extractL rfl rfl rfl (WL.extractL rfl rfl rfl (WL.assign rfl rfl (WL.assign rfl rfl (WL.nil (WX.next (W.sub [(1, _), (6, _)] (.cons rfl (.cons rfl .nil)) (W.seq (W.region (WL.move rfl rfl (WL.call Tryz.call61 rfl (refGet32 (el k.d.now a) (some ⟨g1, 0, none⟩) cap1 _ (M.rdS Has.a (by omega))) rfl ?_)))))))))))
 rintro _ w hgot
 rw [hg] at hgot
 obtain ⟨A2, q2, rfl, m⟩ := hgot
 replace M := M.call1 m; clear m
 refine WL.move rfl rfl (WL.extractL rfl rfl rfl (WL.extractL rfl rfl rfl (WL.extractL rfl rfl rfl (WL.alloc Tryz.zeroValue144 M rfl ?_))))
 intro g2_6 w M
 try simp only [Value.cells] at M
 try simp only [List.toList_toArray] at M
 refine WL.storeWA Tryz.sizeOf144 rfl rfl (by repeat (first | exact oneNil | refine oneCons rfl ?_)) rfl rfl M Upd.a ?_
 intro w M
 refine WL.assign rfl rfl (WL.assign rfl rfl (WL.nil (WX.next (W.sub [(1, _), (8, _), (10, _)] (.cons rfl (.cons rfl (.cons rfl .nil))) (W.seq (W.seq (W.region (WL.move rfl rfl (WL.neI rfl rfl rfl (WL.moveIf rfl rfl (fun c0 => ?_) (fun c0 => ?_)))))))))))
 ·refine WL.off rfl rfl rfl rfl (WL.off rfl rfl rfl rfl (WL.off rfl rfl rfl rfl (WL.pickT rfl rfl rfl (WL.nil (WX.next (W.sub [(1, _), (8, _), (32, _)] (.cons rfl (.cons rfl (.cons rfl .nil))) (W.condT rfl (W.seq (W.region (WL.assign rfl rfl (WL.assign rfl rfl (WL.nil (WX.next (W.sub [(4, _), (5, _)] (.cons rfl (.cons rfl .nil)) (W.ret (WX.thenRet (WX.ret2 rfl rfl rfl ?_)))))))))))))))))
  rw [headD_none hg (.inl (by simpa using c0))]
  exact ⟨0, rfl, fun n h => (by cases h), M.sel Sel.a⟩
 ·refine WL.on rfl rfl (WL.fieldR (off := 0) Tryz.underlying144 rfl rfl Tryz.sizeOf5 rfl rfl rfl ?_)
  refine WL.on rfl rfl (WL.loadR Tryz.isAgg5 rfl M Has.a rfl rfl (WL.on rfl rfl (WL.neI rfl rfl rfl (WL.pickF rfl rfl rfl (WL.nil (WX.next (W.sub [(1, _), (8, _), (32, _)] (.cons rfl (.cons rfl (.cons rfl .nil))) (W.ite rfl (fun c1 => ?_) (fun c1 => ?_)))))))))
  ·refine W.seq (W.region (WL.assign rfl rfl (WL.assign rfl rfl (WL.nil (WX.next (W.sub [(4, _), (5, _)] (.cons rfl (.cons rfl .nil)) (W.ret (WX.thenRet (WX.ret2 rfl rfl rfl ?_)))))))))
   rw [headD_none hg (.inr (fun h => c1 (by rw [h]; rfl)))]
   exact ⟨0, rfl, fun n h => (by cases h), M.sel Sel.a⟩
  ·have he : e = 0 := by simpa using c0
   have hkd : kd = 1 := by
    have h1 : kd.toNat = 1 := by
     have : (kd.toNat : Int) = 1 := by simpa using c1
     omega
    exact UInt8.toNat_inj.1 h1
   obtain ⟨hs1, hs2⟩ := headD_some hg he hkd
   refine W.skip (WX.next (W.seq (W.region (WL.fieldR (off := 1) Tryz.underlying144 rfl rfl Tryz.sizeOf84 rfl rfl rfl ?_))))
   refine WL.loadR Tryz.isAgg84 rfl M Has.a rfl rfl (WL.call Tryz.call63 rfl (refUint_ok b A2 q2 0 _ (M.rdB Has.a) (by omega) (by omega)) rfl ?_)
   rintro _ _ ⟨rfl, rfl⟩
   refine WL.move rfl rfl (WL.extractL rfl rfl rfl (WL.extractL rfl rfl rfl (WL.extractL rfl rfl rfl (WL.assign rfl rfl (WL.assign rfl rfl (WL.assign rfl rfl (WL.nil (WX.next (W.sub [(1, _), (8, _), (11, _), (12, _), (13, _)] (.cons rfl (.cons rfl (.cons rfl (.cons rfl (.cons rfl .nil))))) (W.seq (W.region (WL.move rfl rfl (WL.move rfl rfl (WL.eqI rfl rfl rfl (WL.moveIf rfl rfl (fun c2 => ?_) (fun c2 => ?_))))))))))))))))
   ·refine WL.on rfl rfl (WL.move rfl rfl (WL.on rfl rfl (WL.fieldR (off := 1) Tryz.underlying144 rfl rfl Tryz.sizeOf84 rfl rfl rfl ?_)))
    refine WL.on rfl rfl (WL.loadR Tryz.isAgg84 rfl M Has.a rfl rfl (WL.on rfl rfl (WL.len Tryz.underlying84 rfl rfl (WL.on rfl rfl (WL.eqI rfl rfl rfl (WL.pickT rfl rfl rfl (WL.moveIf rfl rfl (fun c3 => ?_) (fun c3 => ?_))))))))
    ·refine WL.on rfl rfl (WL.move rfl rfl (WL.on rfl rfl (WL.lss rfl rfl rfl (WL.pickT rfl rfl rfl (WL.moveIf rfl rfl (fun c4 => ?_) (fun c4 => ?_))))))
     ·refine WL.on rfl rfl (WL.move rfl rfl (WL.on rfl rfl (WL.rem rfl rfl (by omega) (remN (by omega)) rfl ?_)))
      refine WL.on rfl rfl (WL.conv Tryz.underlying47 Tryz.underlying3 rfl (by first | exact wI64 (by omega) | rfl) rfl ?_)
      refine WL.on rfl rfl (WL.move rfl rfl (WL.on rfl rfl (WL.eqI rfl rfl rfl (WL.pickT rfl rfl rfl (WL.assign rfl rfl (WL.assign rfl rfl (WL.nil (WX.next (W.sub [(4, _), (5, _)] (.cons rfl (.cons rfl .nil)) (W.ret (WX.ret2 rfl rfl rfl ?_)))))))))))
      exact ⟨(rdU b 0).1, by
       have e1 : decide (((rdU b 0).1 : Int) % 2 = (a : Int)) = decide ((rdU b 0).2.2 = 0 ∧ (rdU b 0).2.1 = (b.length : Int) ∧ (rdU b 0).1 < 4611686018427387904 ∧ (rdU b 0).1 % 2 = a) := by rw [decide_eq_decide]; exact ⟨fun h => ⟨c2, c3, by omega, by omega⟩, fun h => by omega⟩
       rw [hs1, ← e1], hs2, M.sel Sel.a⟩
     ·refine WL.off rfl rfl rfl rfl (WL.off rfl rfl rfl rfl (WL.off rfl rfl rfl rfl (WL.off rfl rfl rfl rfl (WL.off rfl rfl rfl rfl (WL.pickF rfl rfl rfl (WL.assign rfl rfl (WL.assign rfl rfl (WL.nil (WX.next (W.sub [(4, _), (5, _)] (.cons rfl (.cons rfl .nil)) (W.ret (WX.ret2 rfl rfl rfl ?_))))))))))))
      exact ⟨(rdU b 0).1, by rw [hs1, decide_eq_false (fun h => c4 (by have := h.2.2.1; omega))], hs2, M.sel Sel.a⟩
    ·refine WL.off rfl rfl rfl rfl (WL.off rfl rfl rfl rfl (WL.pickF rfl rfl rfl (WL.move rfl rfl (WL.off rfl rfl rfl rfl (WL.off rfl rfl rfl rfl (WL.off rfl rfl rfl rfl (WL.off rfl rfl rfl rfl (WL.off rfl rfl rfl rfl (WL.pickF rfl rfl rfl (WL.assign rfl rfl (WL.assign rfl rfl (WL.nil (WX.next (W.sub [(4, _), (5, _)] (.cons rfl (.cons rfl .nil)) (W.ret (WX.ret2 rfl rfl rfl ?_))))))))))))))))
     exact ⟨(rdU b 0).1, by rw [hs1, decide_eq_false (fun h => c3 h.2.1)], hs2, M.sel Sel.a⟩
   ·refine WL.off rfl rfl rfl rfl (WL.off rfl rfl rfl rfl (WL.off rfl rfl rfl rfl (WL.off rfl rfl rfl rfl (WL.off rfl rfl rfl rfl (WL.pickF rfl rfl rfl (WL.move rfl rfl (WL.off rfl rfl rfl rfl (WL.off rfl rfl rfl rfl (WL.pickF rfl rfl rfl (WL.move rfl rfl (WL.off rfl rfl rfl rfl (WL.off rfl rfl rfl rfl (WL.off rfl rfl rfl rfl (WL.off rfl rfl rfl rfl (WL.off rfl rfl rfl rfl (WL.pickF rfl rfl rfl (WL.assign rfl rfl (WL.assign rfl rfl (WL.nil (WX.next (W.sub [(4, _), (5, _)] (.cons rfl (.cons rfl .nil)) (W.ret (WX.ret2 rfl rfl rfl ?_)))))))))))))))))))))))
    exact ⟨(rdU b 0).1, by rw [hs1, decide_eq_false (fun h => c2 h.1)], hs2, M.sel Sel.a⟩
set_option maxHeartbeats 1000000 in
set_option maxRecDepth 10000 in
theorem rwBytes_ok (hk : k.d.ok) (hdn : k.d.down = false) (h6 : 6 ≤ k.d.safe.length) (e : Nat) (he : e < 18446744073709551616) (M : Mem w0 w L) (hd : Del k.O L L') : Fn Tryz.prog 60 [.pointer (some ⟨k.g, 0, none⟩), .int .u64 (e : Int)] w fun v w' => ∃ A c, v = .slice A (secsB k.d.now (firstN (halfD k.d) e) (halfD k.d)).length c ∧ Mem w0 w' (Asr.own 5 1 A (secsB k.d.now (firstN (halfD k.d) e) (halfD k.d)).length c (bs (secsB k.d.now (firstN (halfD k.d) e) (halfD k.d))) :: k.O :: L') := by
 have M1 := M.del hd
 clear M
 have M := M1
 have hln := hk.len
 obtain ⟨h, hhd⟩ : ∃ h, h = halfD k.d := ⟨_, rfl⟩
 have hh : h ≤ 1023 ∧ 2 + 2 * h ≤ k.d.safe.length := by rw [hhd]; unfold halfD; omega
 have he1 : firstN h e + h ≤ k.d.safe.length := by
  have : e % 2 * h ≤ 1 * h := Nat.mul_le_mul_right _ (by omega)
  unfold firstN
  omega
 rw [← hhd]
 obtain ⟨base, hba⟩ : ∃ base, base = firstN h e := ⟨_, rfl⟩
 rw [← hba] at he1 ⊢
 refine Fn.enter Tryz.func60 rfl Tryz.ntmps60 rfl (W.sub [(0, _), (1, _)] (.cons rfl (.cons rfl .nil)) (W.seq (W.region (WL.assign rfl rfl (WL.nil (WX.next (W.sub [(0, _), (1, _)] (.cons rfl (.cons rfl .nil)) (W.seq (W.region (WL.assign rfl rfl (WL.nil (WX.next (W.sub [(0, _), (1, _), (5, _)] (.cons rfl (.cons rfl (.cons rfl .nil))) (W.seq (W.seq (W.region (WL.assign rfl rfl (WL.nil (WX.next (W.sub [(0, _), (1, _), (5, _), (6, _)] (.cons rfl (.cons rfl (.cons rfl (.cons rfl .nil)))) (W.block (W.loop (ι := Nat × Option Addr × Nat) (fun z => [(0, .pointer (some ⟨k.g, 0, none⟩)), (1, .int .u64 (e : Int)), (5, .slice z.2.1 (secsB k.d.now base z.1).length z.2.2), (6, .int .i64 (z.1 : Int))]) (fun zz w => Mem w0 w ((fun z => Asr.own 5 1 z.2.1 (secsB k.d.now base z.1).length z.2.2 (bs (secsB k.d.now base z.1)) :: k.O :: L') zz) ∧ (fun z => z.1 ≤ h) zz) (fun z => h - z.1) ((0, none, 0)) envSub.sf ⟨((M.nilOwn 5 1).sel Sel.a), Nat.zero_le _⟩ ?_))))))))))))))))))))))
 clear M; rintro (⟨i, Ab, cb⟩) w ⟨M, hi⟩; dsimp only at M hi ⊢
 refine W.sub [(0, _), (1, _), (5, _), (6, _)] (.cons rfl (.cons rfl (.cons rfl (.cons rfl .nil)))) (W.seq (W.seq (W.region (WL.move rfl rfl (WL.move rfl rfl (WL.call Tryz.call93 rfl (refHalf_ok k hk w0 w _ M Has.a (by omega)) rfl ?_))))))
 rintro _ _ ⟨rfl, hw⟩
 rw [hw]; clear hw
 rw [← hhd]
 refine WL.lss rfl rfl rfl (WL.nil (WX.next (W.sub [(0, _), (1, _), (5, _), (6, _), (12, _)] (.cons rfl (.cons rfl (.cons rfl (.cons rfl (.cons rfl .nil))))) (W.ite rfl (fun c0 => ?_) (fun c0 => ?_)))))
 ·have hih : i < h := by omega
  have hl32 := (el k.d.now (base + i)).h
  have hsl := secsB_length k.d.now base i
  have hs1 := secsB_succ k.d.now base i
  refine W.skip (WX.next (W.seq (W.block (W.seq (W.region (WL.move rfl rfl (WL.move rfl rfl (WL.move rfl rfl (WL.call Tryz.call94 rfl (refFirst_ok k hk w0 w _ M Has.a (by omega) e he) rfl ?_)))))))))
  rintro _ _ ⟨rfl, hw⟩
  rw [hw]; clear hw
  rw [← hhd, ← hba]
  refine WL.move rfl rfl (WL.add rfl rfl (by first | exact wI64 (by omega) | rfl) rfl ?_)
  rw [show (base : Int) + (i : Int) = ((base + i : Nat) : Int) by push_cast; rfl]
  refine WL.call Tryz.call92 rfl (refRead_ok k w0 w _ _ hk hdn (base + i) (by omega) M Del.a) rfl ?_
  rintro _ w ⟨g1, sp1, cap1, hc1, rfl, M⟩
  refine WL.move rfl rfl (WL.extractL rfl rfl rfl (WL.extractL rfl rfl rfl (WL.assign rfl rfl (WL.assign rfl rfl (WL.nil (WX.next (W.sub [(0, _), (1, _), (5, _), (6, _), (7, _)] (.cons rfl (.cons rfl (.cons rfl (.cons rfl (.cons rfl .nil))))) (W.region (WL.move rfl rfl (WL.move rfl rfl ?_))))))))))
  rw [← hl32]
  refine WL.appendBH Tryz.elem5 rfl rfl M Del.a (M.rdS Has.a (by omega)) rfl rfl (by first | omega | (simp; done) | (simp; omega)) rfl ?_
  intro A6_2 cap6_2 w M
  rw [← hs1] at M ⊢
  refine WL.assign rfl rfl (WL.nil (WX.blockNormal (WX.next (W.sub [(0, _), (1, _), (5, _), (6, _)] (.cons rfl (.cons rfl (.cons rfl (.cons rfl .nil)))) (W.region (WL.move rfl rfl (WL.add rfl rfl (by first | exact wI64 (by omega) | rfl) rfl ?_)))))))
  refine WL.assign rfl rfl (WL.nil ?_)
  refine WX.round ((i + 1, A6_2, cap6_2)) envSub.sf ⟨M.sel Sel.a, (by dsimp only; omega)⟩ (by first | omega | (dsimp only; omega))
 ·refine W.exit (WX.thenExit (WX.thenExit (WX.blockHere (WX.next (W.seq (W.region (WL.move rfl rfl (WL.assign rfl rfl (WL.nil (WX.next (W.sub [(4, _)] (.cons rfl .nil) (W.ret (WX.ret1 rfl rfl ?_)))))))))))))
  obtain rfl : i = h := by omega
  exact ⟨Ab, cb, rfl, M.sel Sel.a⟩
end
end Go.Proofs.YtlminileigfkcaaGreat
namespace Go.Proofs.YtlminileigfkcaaGreat
open Go Go.RowKit Go.Lib Crc Bin
theorem Copy32 (s : Sec) (A : Option Addr) (cap : Nat) (w : World) (h : RdB w A cap s.l) : Fn Tryz.prog 97 [.slice A 32 cap] w fun v w' => ∃ A' cap', v = .slice A' 32 cap' ∧ Mem w w' [Asr.own 5 1 A' 32 cap' (bs s.l)] := by
 have hs := s.h
 have h1 := Copy_ok h (by omega)
 rw [hs] at h1
 exact h1
def cS (b : List UInt8) (e i j : Nat) : List UInt8 := ((curB b e (32 * i + j)).drop (32 * i)).take 32
section
variable {b : List UInt8} {e i j : Nat}
theorem cS_length (he : e ≤ b.length) (hi : 32 * i + 32 ≤ b.length) (hj : j ≤ 32) : (cS b e i j).length = 32 := by
 have := curB_length (p := 32 * i + j) he (by omega)
 unfold cS
 rw [List.length_take, List.length_drop]
 omega
theorem cS_get (he : e ≤ b.length) (hi : 32 * i + 32 ≤ b.length) (hj : j ≤ 32) (k : Nat) : (cS b e i j)[k]? = if k < 32 then (if k < j then (wipeB b e)[32 * i + k]? else b[32 * i + k]?) else none := by
 unfold cS
 rw [List.getElem?_take]
 split
 ·rw [List.getElem?_drop, curB_get he (by omega)]
  by_cases h : k < j
  ·rw [if_pos h, if_pos (by omega)]
  ·rw [if_neg h, if_neg (by omega)]
 ·rfl
theorem cS_0 (he : e ≤ b.length) (hi : 32 * i + 32 ≤ b.length) : cS b e i 0 = (secAt b i).l := by
 apply List.ext_getElem?
 intro k
 rw [cS_get he hi (by omega), secAt_eq hi, List.getElem?_take]
 split
 ·rw [if_neg (by omega), List.getElem?_drop]
 ·rfl
theorem cS_32 (he : e ≤ b.length) (hi : 32 * i + 32 ≤ b.length) : cS b e i 32 = (secAt (wipeB b e) i).l := by
 have hw := wipeB_length he
 apply List.ext_getElem?
 intro k
 rw [cS_get he hi (by omega), secAt_eq (by omega), List.getElem?_take]
 split
 ·rw [List.getElem?_drop]
 ·rfl
theorem cS_el (he : e ≤ b.length) (hi : 32 * i + 32 ≤ b.length) (hj : j < 32) : el (cS b e i j) j = el b (32 * i + j) := by
 unfold el
 rw [cS_get he hi (by omega), if_pos hj, if_neg (by omega)]
theorem cS_keep (he : e ≤ b.length) (hi : 32 * i + 32 ≤ b.length) (hj : j < 32) (h : 32 * i + j < e ∨ el b (32 * i + j) = 0) : cS b e i (j + 1) = cS b e i j := by
 have := curB_keep (p := 32 * i + j) he (by omega) h
 unfold cS
 rw [← Nat.add_assoc, this]
theorem cS_set (he : e ≤ b.length) (hi : 32 * i + 32 ≤ b.length) (hj : j < 32) (h : e ≤ 32 * i + j) : cS b e i (j + 1) = (cS b e i j).set j 0 := by
 have hl := cS_length (j := j) he hi (by omega)
 apply List.ext_getElem?
 intro k
 rw [List.getElem?_set, cS_get he hi (by omega), cS_get he hi (by omega), hl]
 by_cases h1 : j = k
 ·subst h1
  rw [if_pos hj, if_pos (by omega), if_pos rfl, if_pos (by omega), wipeB_get he, if_neg (by omega), if_pos (by omega)]
 ·rw [if_neg h1]
  split
  ·by_cases h2 : k < j
   ·rw [if_pos h2, if_pos (by omega)]
   ·rw [if_neg h2, if_neg (by omega)]
  ·rfl
end
section
variable (w0 w : World) (L L1 L2 : List Asr)
set_option maxHeartbeats 2000000 in
set_option maxRecDepth 10000 in
theorem rwWiped_ok (k : RdX) (hok : k.d.ok) (hup : k.d.up) (h6 : 6 ≤ k.d.safe.length) {g gb cb e en m cl n : Nat} {Al : Option Addr} (b : List UInt8) (hen : en ≤ b.length) (hb : b.length = 32 * halfD k.d) (he : e < 4611686018427387904) (hwa : k.d.waits.length ≤ 90000)
 (M : Mem w0 w L) (hd1 : Del (rwRow g k.g e Al m cl n false) L L1) (hd2 : Del k.O L1 L2) (hrb : RdH w0 L2 (some ⟨gb, 0, none⟩) cb b) :
 Fn Tryz.prog 62 [.pointer (some ⟨g, 0, none⟩), .slice (some ⟨gb, 0, none⟩) b.length cb, .int .i64 (en : Int)] w fun v w' => v = .tuple #[.pointer (some ⟨g, 0, none⟩), .int .i64 0] ∧ ∃ k' : RdX, k'.g = k.g ∧ k'.d = (wipeD (halfD k.d) (firstN (halfD k.d) e) b en k.d).2 ∧ k'.d.ok ∧ k'.d.safe.length = k.d.safe.length ∧ k'.d.waits.length ≤ k.d.waits.length + 1100 ∧
  Mem w0 w' (rwRow g k.g e Al m cl n false :: k'.O :: L2) := by
 have M1 := (M.del hd1).perm (List.Perm.cons _ hd2.perm)
 clear M
 have M := M1
 have hln := hok.len
 obtain ⟨h, hhd⟩ : ∃ h, h = halfD k.d := ⟨_, rfl⟩
 have hh : h ≤ 1023 ∧ 2 + 2 * h ≤ k.d.safe.length := by rw [hhd]; unfold halfD; omega
 have he1 : firstN h e + h ≤ k.d.safe.length := by
  have : e % 2 * h ≤ 1 * h := Nat.mul_le_mul_right _ (by omega)
  unfold firstN
  omega
 have hcb : b.length ≤ cb := (hrb.at M.tail.tail).le
 rw [← hhd] at hb ⊢
 obtain ⟨base, hba⟩ : ∃ base, base = firstN h e := ⟨_, rfl⟩
 rw [← hba] at he1 ⊢
 obtain ⟨hz1, hz2⟩ := wipeAll_up (base := base) (b := b) (e := en) h 0 (k.d, false) hup
 obtain ⟨T, hT⟩ : ∃ T, T = eachN (wipeStep base b en) h 0 (k.d, false) := ⟨_, rfl⟩
 rw [← hT] at hz1 hz2
 refine Fn.enter Tryz.func62 rfl Tryz.ntmps62 rfl (W.sub [(0, _), (1, _), (2, _)] (.cons rfl (.cons rfl (.cons rfl .nil))) (W.seq (W.region (WL.assign rfl rfl (WL.assign rfl rfl (WL.nil (WX.next (W.sub [(0, _), (1, _), (2, _)] (.cons rfl (.cons rfl (.cons rfl .nil))) (W.seq (W.region (WL.assign rfl rfl (WL.nil (WX.next (W.sub [(0, _), (1, _), (2, _), (8, _)] (.cons rfl (.cons rfl (.cons rfl (.cons rfl .nil)))) (W.seq (W.seq (W.region (WL.assign rfl rfl (WL.nil (WX.next (W.sub [(0, _), (1, _), (2, _), (8, _), (9, _)] (.cons rfl (.cons rfl (.cons rfl (.cons rfl (.cons rfl .nil))))) (W.block (W.loop (ι := Nat × RdX × Bool) (fun z => [(0, .pointer (some ⟨g, 0, none⟩)), (1, .slice (some ⟨gb, 0, none⟩) b.length cb), (2, .int .i64 (en : Int)), (8, .bool z.2.2), (9, .int .i64 (z.1 : Int))]) (fun zz w => Mem w0 w ((fun z => rwRow g k.g e Al m cl n false :: z.2.1.O :: L2) zz) ∧ (fun z => z.1 ≤ h ∧ z.2.1.g = k.g ∧ z.2.1.d.ok ∧ z.2.1.d.up ∧ z.2.1.d.safe.length = k.d.safe.length ∧ z.2.1.d.waits.length ≤ k.d.waits.length + z.1 ∧ eachN (wipeStep base b en) (h - z.1) z.1 (z.2.1.d, z.2.2) = T) zz) (fun z => h - z.1) ((0, k, false)) envSub.sf ⟨M.sel Sel.a, ⟨Nat.zero_le _, rfl, hok, hup, rfl, Nat.le_refl _, hT.symm⟩⟩ ?_)))))))))))))))))))))))
 clear M; rintro (⟨i, q, wr⟩) w ⟨M, ⟨hi, hqg, hqo, hqu, hql, hqw, hqT⟩⟩; dsimp only at M hi hqg hqo hqu hql hqw hqT ⊢
 refine W.sub [(0, _), (1, _), (2, _), (8, _), (9, _)] (.cons rfl (.cons rfl (.cons rfl (.cons rfl (.cons rfl .nil))))) (W.seq (W.seq ?_))
 have hqh : halfD q.d = h := by rw [hhd]; unfold halfD; rw [hql]
 refine W.region (WL.move rfl rfl (WL.move rfl rfl (WL.nilCheck rfl rfl (WL.fieldR (off := 0) Tryz.underlying91 rfl rfl Tryz.sizeOf32 rfl rfl rfl ?_))))
 refine WL.loadR (v := .pointer (some ⟨q.g, 0, none⟩)) Tryz.isAgg32 rfl M Has.a (by rw [hqg]; rfl) rfl ?_
 refine WL.call Tryz.call93 rfl (refHalf_ok q hqo w0 w _ M Has.a (by omega)) rfl ?_
 rintro _ _ ⟨rfl, hw⟩
 rw [hw]; clear hw
 rw [hqh]
 refine WL.lss rfl rfl rfl (WL.nil (WX.next (W.sub [(0, _), (1, _), (2, _), (8, _), (9, _), (21, _)] (.cons rfl (.cons rfl (.cons rfl (.cons rfl (.cons rfl (.cons rfl .nil)))))) (W.ite rfl (fun c0 => ?_) (fun c0 => ?_)))))
 ·have hih : i < h := by omega
  have hsub : 32 * i + 32 ≤ b.length := by omega
  refine W.skip (WX.next (W.seq (W.block (W.seq (W.region (WL.assign rfl rfl (WL.nil (WX.next (W.sub [(0, _), (1, _), (2, _), (8, _), (9, _), (10, _)] (.cons rfl (.cons rfl (.cons rfl (.cons rfl (.cons rfl (.cons rfl .nil)))))) (W.seq (W.region (WL.move rfl rfl (WL.move rfl rfl (WL.mul rfl rfl (by first | exact wI64 (by omega) | rfl) rfl ?_))))))))))))))
  refine WL.move rfl rfl (WL.mul rfl rfl (by first | exact wI64 (by omega) | rfl) rfl ?_)
  refine WL.add rfl rfl (by first | exact wI64 (by omega) | rfl) rfl ?_
  refine WL.cutLH (an := i * 32) (bn := i * 32 + 32) (m' := 32) Tryz.underlying84 Tryz.sizeOf5 rfl rfl rfl (by omega) (by omega) (by omega) (by omega) (by omega) (by omega) rfl ?_
  rw [cutA_lit (by omega), Nat.mul_one]
  refine WL.call Tryz.call97 rfl (Copy32 (secAt b i) (some ⟨gb, i * 32, none⟩) (cb - i * 32) w (secAt_rd (hrb.at (M.sel Sel.a)) (by omega))) rfl ?_
  rintro _ w ⟨A7, c7, rfl, m⟩
  replace M := M.call1 m; clear m
  refine WL.assign rfl rfl (WL.nil (WX.next (W.sub [(0, _), (1, _), (2, _), (8, _), (9, _), (10, _), (11, _)] (.cons rfl (.cons rfl (.cons rfl (.cons rfl (.cons rfl (.cons rfl (.cons rfl .nil))))))) (W.seq (W.seq ?_)))))
  have hc0 := cS_0 hen hsub
  have hcl0 := cS_length (j := 0) hen hsub (by omega)
  rw [← hc0] at M
  refine W.region (WL.assign rfl rfl (WL.nil (WX.next (W.sub [(0, _), (1, _), (2, _), (8, _), (9, _), (10, _), (11, _), (12, _)] (.cons rfl (.cons rfl (.cons rfl (.cons rfl (.cons rfl (.cons rfl (.cons rfl (.cons rfl .nil)))))))) (W.block ?_)))))
  refine W.loop (ι := Nat) (fun j => [(0, .pointer (some ⟨g, 0, none⟩)), (1, .slice (some ⟨gb, 0, none⟩) b.length cb), (2, .int .i64 (en : Int)), (8, .bool wr), (9, .int .i64 (i : Int)), (10, .bool (anyTo b en i j)), (11, .slice A7 32 c7), (12, .int .i64 (j : Int))]) (fun zz w => Mem w0 w ((fun j => Asr.own 5 1 A7 (cS b en i j).length c7 (bs (cS b en i j)) :: rwRow g k.g e Al m cl n false :: q.O :: L2) zz) ∧ (fun j => j ≤ 32) zz) (fun j => 32 - j) (0) envSub.sf ⟨(by dsimp only; rw [hcl0]; exact M.sel Sel.a), Nat.zero_le _⟩ ?_
  clear M; rintro (j) w ⟨M, hj⟩; dsimp only at M hj ⊢
  refine W.sub [(0, _), (1, _), (2, _), (8, _), (9, _), (10, _), (11, _), (12, _)] (.cons rfl (.cons rfl (.cons rfl (.cons rfl (.cons rfl (.cons rfl (.cons rfl (.cons rfl .nil)))))))) (W.seq (W.seq (W.region (WL.move rfl rfl (WL.lss rfl rfl rfl (WL.nil (WX.next (W.sub [(0, _), (1, _), (2, _), (8, _), (9, _), (10, _), (11, _), (12, _), (33, _)] (.cons rfl (.cons rfl (.cons rfl (.cons rfl (.cons rfl (.cons rfl (.cons rfl (.cons rfl (.cons rfl .nil))))))))) (W.ite rfl (fun c1 => ?_) (fun c1 => ?_))))))))))
  ·have hj32 : j < 32 := by omega
   have hcl := cS_length (j := j) hen hsub (by omega)
   have hel := cS_el (j := j) hen hsub hj32
   refine W.skip (WX.next (W.seq (W.block (W.seq (W.region (WL.move rfl rfl (WL.mul rfl rfl (by first | exact wI64 (by omega) | rfl) rfl ?_)))))))
   refine WL.move rfl rfl (WL.add rfl rfl (by first | exact wI64 (by omega) | rfl) rfl ?_)
   refine WL.move rfl rfl (WL.geq rfl rfl rfl (WL.moveIf rfl rfl (fun c2 => ?_) (fun c2 => ?_)))
   ·refine WL.on rfl rfl (WL.move rfl rfl (WL.on rfl rfl (WL.move rfl rfl (WL.on rfl rfl (WL.idxA Tryz.underlying84 Tryz.sizeOf5 rfl rfl (RdB.isSome (by first | first | with_reducible assumption | with_reducible exact RdB.mem (by with_reducible assumption) M | exact M.rdB Has.a | exact RdH.at (by assumption) (M.sel Sel.a) | exact M.rdLit' Has.a | exact M.rdLent Has.a | exact RdB.nil _ _ | exact RdB.sub (by first | with_reducible assumption | with_reducible exact RdB.mem (by with_reducible assumption) M | exact M.rdB Has.a | exact RdH.at (by assumption) (M.sel Sel.a) | exact M.rdLit' Has.a | exact M.rdLent Has.a | exact RdB.nil _ _) (by omega) (by omega) | exact RdB.pre' (by first | with_reducible assumption | with_reducible exact RdB.mem (by with_reducible assumption) M | exact M.rdB Has.a | exact RdH.at (by assumption) (M.sel Sel.a) | exact M.rdLit' Has.a | exact M.rdLent Has.a | exact RdB.nil _ _) (by omega) | exact RdB.suf (by first | with_reducible assumption | with_reducible exact RdB.mem (by with_reducible assumption) M | exact M.rdB Has.a | exact RdH.at (by assumption) (M.sel Sel.a) | exact M.rdLit' Has.a | exact M.rdLent Has.a | exact RdB.nil _ _) (by omega)) (by omega)) (by omega) (by omega) (by first | exact rfl | exact (Int.toNat_of_nonneg (by omega)).symm) rfl ?_)))))
    refine WL.on rfl rfl (WL.loadB Tryz.isAgg5 rfl (by first | first | with_reducible assumption | with_reducible exact RdB.mem (by with_reducible assumption) M | exact M.rdB Has.a | exact RdH.at (by assumption) (M.sel Sel.a) | exact M.rdLit' Has.a | exact M.rdLent Has.a | exact RdB.nil _ _ | exact RdB.sub (by first | with_reducible assumption | with_reducible exact RdB.mem (by with_reducible assumption) M | exact M.rdB Has.a | exact RdH.at (by assumption) (M.sel Sel.a) | exact M.rdLit' Has.a | exact M.rdLent Has.a | exact RdB.nil _ _) (by omega) (by omega) | exact RdB.pre' (by first | with_reducible assumption | with_reducible exact RdB.mem (by with_reducible assumption) M | exact M.rdB Has.a | exact RdH.at (by assumption) (M.sel Sel.a) | exact M.rdLit' Has.a | exact M.rdLent Has.a | exact RdB.nil _ _) (by omega) | exact RdB.suf (by first | with_reducible assumption | with_reducible exact RdB.mem (by with_reducible assumption) M | exact M.rdB Has.a | exact RdH.at (by assumption) (M.sel Sel.a) | exact M.rdLit' Has.a | exact M.rdLent Has.a | exact RdB.nil _ _) (by omega)) (by omega) rfl ?_)
    refine WL.on rfl rfl (WL.neI rfl rfl rfl (WL.pickT rfl rfl rfl (WL.nil (WX.next (W.sub [(0, _), (1, _), (2, _), (8, _), (9, _), (10, _), (11, _), (12, _), (48, _)] (.cons rfl (.cons rfl (.cons rfl (.cons rfl (.cons rfl (.cons rfl (.cons rfl (.cons rfl (.cons rfl .nil))))))))) (W.ite rfl (fun c3 => ?_) (fun c3 => ?_)))))))
    ·refine W.seq (W.region (WL.move rfl rfl (WL.move rfl rfl (WL.idxA Tryz.underlying84 Tryz.sizeOf5 rfl rfl (RdB.isSome (by first | first | with_reducible assumption | with_reducible exact RdB.mem (by with_reducible assumption) M | exact M.rdB Has.a | exact RdH.at (by assumption) (M.sel Sel.a) | exact M.rdLit' Has.a | exact M.rdLent Has.a | exact RdB.nil _ _ | exact RdB.sub (by first | with_reducible assumption | with_reducible exact RdB.mem (by with_reducible assumption) M | exact M.rdB Has.a | exact RdH.at (by assumption) (M.sel Sel.a) | exact M.rdLit' Has.a | exact M.rdLent Has.a | exact RdB.nil _ _) (by omega) (by omega) | exact RdB.pre' (by first | with_reducible assumption | with_reducible exact RdB.mem (by with_reducible assumption) M | exact M.rdB Has.a | exact RdH.at (by assumption) (M.sel Sel.a) | exact M.rdLit' Has.a | exact M.rdLent Has.a | exact RdB.nil _ _) (by omega) | exact RdB.suf (by first | with_reducible assumption | with_reducible exact RdB.mem (by with_reducible assumption) M | exact M.rdB Has.a | exact RdH.at (by assumption) (M.sel Sel.a) | exact M.rdLit' Has.a | exact M.rdLent Has.a | exact RdB.nil _ _) (by omega)) (by omega)) (by omega) (by omega) (by first | exact rfl | exact (Int.toNat_of_nonneg (by omega)).symm) rfl ?_))))
     refine WL.storeB Tryz.sizeOf5 rfl rfl M Has.a (by omega) (by omega) (by omega) Upd.a ?_
     intro w M
     refine WL.nil (WX.next (W.sub [(0, _), (1, _), (2, _), (8, _), (9, _), (11, _), (12, _)] (.cons rfl (.cons rfl (.cons rfl (.cons rfl (.cons rfl (.cons rfl (.cons rfl .nil))))))) (W.region (WL.assign rfl rfl (WL.nil (WX.blockNormal (WX.next (W.sub [(0, _), (1, _), (2, _), (8, _), (9, _), (10, _), (11, _), (12, _)] (.cons rfl (.cons rfl (.cons rfl (.cons rfl (.cons rfl (.cons rfl (.cons rfl (.cons rfl .nil)))))))) (W.region (WL.move rfl rfl (WL.add rfl rfl (by first | exact wI64 (by omega) | rfl) rfl ?_)))))))))))
     refine WL.assign rfl rfl (WL.nil ?_)
     skip
     have hne : el b (32 * i + j) ≠ 0 := by
      rw [hel] at c3
      intro h
      rw [h] at c3
      exact c3 rfl
     have q1 : cS b en i (j + 1) = (cS b en i j).set j 0 := cS_set hen hsub hj32 (by omega)
     have q2 : anyTo b en i (j + 1) = true := by rw [anyTo_succ, decide_eq_true ⟨by omega, hne⟩, Bool.or_true]
     have q3 : u8 0 = 0 := rfl
     rw [q3, ← q1] at M
     rw [← q2]
     refine WX.round (j + 1) envSub.sf ⟨M.sel Sel.a, (by omega)⟩ (by first | omega | (dsimp only; omega))
    ·refine W.skip (WX.blockNormal (WX.next (W.region (WL.move rfl rfl (WL.add rfl rfl (by first | exact wI64 (by omega) | rfl) rfl ?_)))))
     refine WL.assign rfl rfl (WL.nil ?_)
     skip
     have hz : el b (32 * i + j) = 0 := by
      rw [hel] at c3
      have : (el b (32 * i + j)).toNat = 0 := by omega
      exact UInt8.toNat_inj.1 this
     have q1 : cS b en i (j + 1) = cS b en i j := cS_keep hen hsub hj32 (.inr hz)
     have q2 : anyTo b en i (j + 1) = anyTo b en i j := by rw [anyTo_succ, decide_eq_false (fun h => h.2 hz), Bool.or_false]
     rw [← q1] at M
     rw [← q2]
     refine WX.round (j + 1) envSub.sf ⟨M.sel Sel.a, (by omega)⟩ (by first | omega | (dsimp only; omega))
   ·refine WL.off rfl rfl rfl rfl (WL.off rfl rfl rfl rfl (WL.off rfl rfl rfl rfl (WL.off rfl rfl rfl rfl (WL.off rfl rfl rfl rfl (WL.pickF rfl rfl rfl (WL.nil (WX.next (W.sub [(0, _), (1, _), (2, _), (8, _), (9, _), (10, _), (11, _), (12, _), (48, _)] (.cons rfl (.cons rfl (.cons rfl (.cons rfl (.cons rfl (.cons rfl (.cons rfl (.cons rfl (.cons rfl .nil))))))))) (W.condF rfl (W.skip (WX.blockNormal (WX.next (W.region (WL.move rfl rfl (WL.add rfl rfl (by first | exact wI64 (by omega) | rfl) rfl ?_)))))))))))))))
    refine WL.assign rfl rfl (WL.nil ?_)
    skip
    have q1 : cS b en i (j + 1) = cS b en i j := cS_keep hen hsub hj32 (.inl (by omega))
    have q2 : anyTo b en i (j + 1) = anyTo b en i j := by rw [anyTo_succ, decide_eq_false (fun h => by omega), Bool.or_false]
    rw [← q1] at M
    rw [← q2]
    refine WX.round (j + 1) envSub.sf ⟨M.sel Sel.a, (by omega)⟩ (by first | omega | (dsimp only; omega))
  ·obtain rfl : j = 32 := by omega
   have hcl := cS_length (j := 32) hen hsub (by omega)
   rw [hcl, cS_32 hen hsub] at M
   rw [anyTo_dirty]
   refine W.exit (WX.thenExit (WX.thenExit (WX.blockHere (WX.next (W.seq (W.seq (W.region (WL.move rfl rfl (WL.not rfl rfl (WL.nil (WX.next (W.sub [(0, _), (1, _), (2, _), (8, _), (9, _), (11, _), (53, _)] (.cons rfl (.cons rfl (.cons rfl (.cons rfl (.cons rfl (.cons rfl (.cons rfl .nil))))))) (W.cond rfl (fun c4 => ?_) (fun c4 => ?_))))))))))))))
   ·(try simp only [Bool.not_eq_true'] at c4); (try simp only [Bool.not_eq_false'] at c4); (try simp only [decide_eq_true_eq] at c4); (try simp only [decide_eq_false_iff_not] at c4)
    have hnd : dirtyB b en i = false := by simpa using c4
    have e1 : wipeStep base b en i (q.d, wr) = (0, (q.d, wr)) := by unfold wipeStep; rw [if_neg (by rw [hnd]; simp)]
    refine W.exit (WX.thenExit (WX.blockHere (WX.next (W.region (WL.move rfl rfl (WL.add rfl rfl (by first | exact wI64 (by omega) | rfl) rfl ?_))))))
    refine WL.assign rfl rfl (WL.nil ?_)
    skip
    have e2 : eachN (wipeStep base b en) (h - (i + 1)) (i + 1) (q.d, wr) = T := by
     rw [← hqT, show h - i = (h - (i + 1)) + 1 by omega]
     conv => rhs; rw [eachN, e1, if_neg (by simp)]
    refine WX.round ((i + 1, q, wr)) envSub.sf ⟨M.sel Sel.a, ⟨by dsimp only; omega, hqg, hqo, hqu, hql, by dsimp only; omega, e2⟩⟩ (by first | omega | (dsimp only; omega))
   ·(try simp only [Bool.not_eq_true'] at c4); (try simp only [Bool.not_eq_false'] at c4); (try simp only [decide_eq_true_eq] at c4); (try simp only [decide_eq_false_iff_not] at c4)
    have hdt : dirtyB b en i = true := by simpa using c4
    have e1 : wipeStep base b en i (q.d, wr) = ((q.d.write (base + i) (secAt (wipeB b en) i)).1, ((q.d.write (base + i) (secAt (wipeB b en) i)).2, true)) := by unfold wipeStep; rw [if_pos hdt]
    have hw0 : (q.d.write (base + i) (secAt (wipeB b en) i)).1 = 0 := by rw [Dk.write_up hqu]
    refine W.skip (WX.next (W.seq (W.region (WL.assign rfl rfl (WL.nil (WX.next (W.sub [(0, _), (1, _), (2, _), (8, _), (9, _), (11, _)] (.cons rfl (.cons rfl (.cons rfl (.cons rfl (.cons rfl (.cons rfl .nil)))))) (W.seq (W.drawM ([rwRow g k.g e Al m cl n false]) (by kernel_rfl) (fun j => [3, 7, 11, 12, 14].contains j) M Sel.a ?_)))))))))
    clear M; intro M
    apply DG.pure_ [0, 1, 2, 4, 5, 6, 8, 9, 10, 13, 15] 7 rfl (by kernel_rfl) (by kernel_rfl)
    ·intro w
     refine WL.move rfl rfl (WL.nilCheck rfl rfl (WL.fieldR (off := 0) Tryz.underlying91 rfl rfl Tryz.sizeOf32 rfl rfl rfl ?_))
     refine WL.move rfl rfl (WL.nilCheck rfl rfl (WL.fieldR (off := 0) Tryz.underlying91 rfl rfl Tryz.sizeOf32 rfl rfl rfl ?_))
     refine WL.move rfl rfl (WL.nilCheck rfl rfl (WL.fieldR (off := 1) Tryz.underlying91 rfl rfl Tryz.sizeOf47 rfl rfl rfl ?_))
     refine WL.move rfl rfl (WL.move rfl rfl ?_)
     exact Chain.end_ rfl
    apply DG.take [3, 7, 11] 4 rfl (by kernel_rfl) (by kernel_rfl) (M.sel Sel.a)
    ·intro w M
     refine WL.loadR (v := .pointer (some ⟨q.g, 0, none⟩)) Tryz.isAgg32 rfl M Has.a (by rw [hqg]; rfl) rfl ?_
     refine WL.loadR (v := .pointer (some ⟨q.g, 0, none⟩)) Tryz.isAgg32 rfl M Has.a (by rw [hqg]; rfl) rfl ?_
     refine WL.loadR Tryz.isAgg47 rfl M Has.a rfl rfl ?_
     exact Chain.end_ rfl
    refine DG.step 12 3 rfl (by kernel_rfl) ?_
    refine WL.call Tryz.call94 rfl (refFirst_ok q hqo w0 _ _ M Has.a (by omega) e (by omega)) rfl ?_
    rintro _ _ ⟨rfl, hw⟩
    rw [hw]; clear hw
    rw [hqh]
    refine DG.go (G := fun j => [3, 7, 11, 12, 14].contains j) (i := 12) (f' := 3) (done := [0, 1, 2, 4, 5, 6, 8, 9, 10, 13, 15, 3, 7, 11]) (fun _ => M.sel Sel.a) ?_
    apply DG.take [14] 2 rfl (by kernel_rfl) (by kernel_rfl) (M.sel Sel.a)
    ·intro w M
     refine WL.add rfl rfl (by first | exact wI64 (by omega) | rfl) rfl ?_
     exact Chain.end_ rfl
    refine DG.step 16 1 rfl (by kernel_rfl) ?_
    rw [← hba, show (base : Int) + (i : Int) = ((base + i : Nat) : Int) by push_cast; rfl]
    refine WL.call Tryz.call98 rfl (refWrite_ok q w0 _ _ _ hqo (base + i) (by omega) (secAt (wipeB b en) i) A7 c7 M Del.a (by intro w M; exact M.rdB (by rw [(secAt (wipeB b en) i).h]; exact Has.a))) rfl ?_
    rintro _ w ⟨rfl, q2, p1, p2, M⟩
    have q2ok : q2.d.ok := by rw [p2]; exact Dk.write_ok hqo _ (by omega) (by omega)
    have q2len : q2.d.safe.length = k.d.safe.length := by rw [p2, Dk.write_len]; exact hql
    have q2few : q2.d.waits.length ≤ q.d.waits.length + 1 := by rw [p2]; exact Dk.write_few ..
    have q2up : q2.d.up := by rw [p2, Dk.write_up hqu]; exact hqu
    refine DG.go (G := fun j => [3, 7, 11, 12, 14].contains j) (i := 16) (f' := 1) (done := [0, 1, 2, 4, 5, 6, 8, 9, 10, 13, 15, 3, 7, 11, 12, 14]) (fun h => by cases h) ?_
    apply DG.pure_ [17] 0 rfl (by kernel_rfl) (by kernel_rfl)
    ·intro w
     refine WL.assign rfl rfl ?_
     exact Chain.end_ rfl
    refine DG.end_ (by kernel_rfl) ?_
    refine WX.next (W.sub [(0, _), (1, _), (2, _), (8, _), (9, _), (13, _)] (.cons rfl (.cons rfl (.cons rfl (.cons rfl (.cons rfl (.cons rfl .nil)))))) (W.seq (W.region (WL.move rfl rfl (WL.neI rfl rfl rfl (WL.nil (WX.next (W.sub [(0, _), (1, _), (2, _), (8, _), (9, _), (13, _), (72, _)] (.cons rfl (.cons rfl (.cons rfl (.cons rfl (.cons rfl (.cons rfl (.cons rfl .nil))))))) (W.ite rfl (fun c5 => ?_) (fun c5 => ?_))))))))))
    ·exact absurd hw0 (by omega)
    ·refine W.skip (WX.blockNormal (WX.next (W.region (WL.move rfl rfl (WL.add rfl rfl (by first | exact wI64 (by omega) | rfl) rfl ?_)))))
     refine WL.assign rfl rfl (WL.nil ?_)
     skip
     have e2 : eachN (wipeStep base b en) (h - (i + 1)) (i + 1) (q2.d, true) = T := by
      rw [← hqT, show h - i = (h - (i + 1)) + 1 by omega, p2]
      conv => rhs; rw [eachN, e1, if_neg (by simpa using hw0)]
     refine WX.round ((i + 1, q2, true)) envSub.sf ⟨M.sel Sel.a, ⟨by dsimp only; omega, p1.trans hqg, q2ok, q2up, q2len, by dsimp only; omega, e2⟩⟩ (by first | omega | (dsimp only; omega))
 ·obtain rfl : i = h := by omega
  rw [Nat.sub_self] at hqT
  have hTq : T = (0, (q.d, wr)) := by rw [← hqT]; rfl
  refine W.exit (WX.thenExit (WX.thenExit (WX.blockHere (WX.next (W.seq (W.seq (W.region (WL.move rfl rfl (WL.nil (WX.next (W.sub [(0, _), (74, _)] (.cons rfl (.cons rfl .nil)) (W.cond rfl (fun c6 => ?_) (fun c6 => ?_)))))))))))))
  ·(try simp only [Bool.not_eq_true'] at c6); (try simp only [Bool.not_eq_false'] at c6); (try simp only [decide_eq_true_eq] at c6); (try simp only [decide_eq_false_iff_not] at c6)
   have hwr : wr = true := c6
   refine W.seq (W.region (WL.move rfl rfl (WL.nilCheck rfl rfl (WL.fieldR (off := 0) Tryz.underlying91 rfl rfl Tryz.sizeOf32 rfl rfl rfl ?_))))
   refine WL.loadR (v := .pointer (some ⟨q.g, 0, none⟩)) Tryz.isAgg32 rfl M Has.a (by rw [hqg]; rfl) rfl ?_
   refine WL.call Tryz.call99 rfl (refSync_ok q w0 w _ _ hqo M Del.a) rfl ?_
   rintro _ w ⟨rfl, q3, p1, p2, M⟩
   have hs0 : q.d.sync.1 = 0 := by rw [Dk.sync_up hqu]
   refine WL.assign rfl rfl (WL.nil (WX.next (W.sub [(0, _), (14, _)] (.cons rfl (.cons rfl .nil)) (W.seq (W.region (WL.move rfl rfl (WL.neI rfl rfl rfl (WL.nil (WX.next (W.sub [(0, _), (14, _), (81, _)] (.cons rfl (.cons rfl (.cons rfl .nil))) (W.ite rfl (fun c7 => ?_) (fun c7 => ?_))))))))))))
   ·exact absurd hs0 (by omega)
   ·refine W.skip (WX.next (W.seq (W.region (WL.move rfl rfl (WL.assign rfl rfl (WL.assign rfl rfl (WL.nil (WX.next (W.sub [(6, _), (7, _)] (.cons rfl (.cons rfl .nil)) (W.ret (WX.ret2 rfl rfl rfl ?_)))))))))))
    have e1 : wipeD i base b en k.d = (0, q.d.sync.2) := by
     unfold wipeD
     rw [← hT, hTq, if_neg (by simp), if_pos hwr]
     exact Prod.ext hs0 rfl
    rw [e1]
    exact ⟨rfl, q3, p1.trans hqg, p2, by rw [p2]; exact Dk.sync_ok hqo, by rw [p2, Dk.sync_len]; exact hql, by rw [p2]; have := Dk.sync_few q.d; omega, M.sel Sel.a⟩
  ·(try simp only [Bool.not_eq_true'] at c6); (try simp only [Bool.not_eq_false'] at c6); (try simp only [decide_eq_true_eq] at c6); (try simp only [decide_eq_false_iff_not] at c6)
   refine W.skip (WX.next (W.seq (W.region (WL.move rfl rfl (WL.assign rfl rfl (WL.assign rfl rfl (WL.nil (WX.next (W.sub [(6, _), (7, _)] (.cons rfl (.cons rfl .nil)) (W.ret (WX.ret2 rfl rfl rfl ?_)))))))))))
   have hwr : ¬ wr = true := by simpa using c6
   have e1 : wipeD i base b en k.d = (0, q.d) := by
    unfold wipeD
    rw [← hT, hTq, if_neg (by simp), if_neg hwr]
   rw [e1]
   exact ⟨rfl, q, hqg, rfl, hqo, hql, by omega, M.sel Sel.a⟩
end
end Go.Proofs.YtlminileigfkcaaGreat
