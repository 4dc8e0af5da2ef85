/-
  Walks: the document's answer for drr (seawallref21): Pop.
-/
import Derived.Test.YtdhmopmfnnlhcaaRef21c
namespace Go.Proofs.Ytdhmopmfnnlhcaa
open Go Go.RowKit

theorem erase_step {l : List JX} {a i : Nat} (hi : i < l.length) : (l.take (i + 1)).eraseIdx a = if i = a then (l.take i).eraseIdx a else (l.take i).eraseIdx a ++ [el l i] := by
  have hl : (l.take i).length = i := by rw [List.length_take]; omega
  rw [take_snoc hi]
  split
  · rename_i e
    subst e
    rw [List.eraseIdx_append_of_length_le (by omega), List.eraseIdx_of_length_le (show (l.take i).length ≤ i by omega), hl, Nat.sub_self]
    exact List.append_nil _
  · rename_i e
    rcases Nat.lt_or_ge a i with h | h
    · rw [List.eraseIdx_append_of_lt_length (by omega)]
    · rw [List.eraseIdx_of_length_le (by rw [List.length_append, hl, List.length_singleton]; omega), List.eraseIdx_of_length_le (by omega)]
theorem begin_cd {s : Sd} (hk : s.hd < s.fl.length) : (beginS s).fl.map Fl.credit = (s.fl.map Fl.credit).set s.hd (el (s.fl.map Fl.credit) s.hd + el (s.fl.map Fl.share) s.hd) ∧ (beginS s).fl.map Fl.share = s.fl.map Fl.share := by
  unfold beginS
  dsimp only
  constructor
  · rw [map_setS, el_mapS _ hk, el_mapS _ hk]
    rfl
  · exact map_setSame Fl.share hk (by rfl)
/-- The turn of the first one. -/
theorem next2_ok (g : Nat) (As : Option Addr) (cs : Nat) (Ac : Option Addr) (cc : Nat) (Al : Option Addr) (cl : Nat) (l : List JX) (Ar : Option Addr) (cr : Nat) (s : Sd) (t : Int) (hr : s.round ≠ []) (hk : s.hd < s.fl.length) (hc : 0 ≤ s.f.credit ∧ s.f.credit ≤ 200000) (hs : 1 ≤ s.f.share ∧ s.f.share ≤ 100000) (w0 w : World) (L : List Asr)
    (M : Mem w0 w (RfX.L ⟨g, As, cs, s.fl.map Fl.share, Ac, cc, s.fl.map Fl.credit, Al, cl, l, Ar, cr, s.round, t⟩ ++ L)) :
    Fn Try.prog 32 [.pointer (some ⟨g, 0, none⟩)] w fun _ w' => Mem w0 w' (RfX.L ⟨g, As, cs, s.fl.map Fl.share, Ac, cc, (beginS s).fl.map Fl.credit, Al, cl, l, Ar, cr, s.round, (s.hd : Int)⟩ ++ L) := by
  obtain ⟨k, r, hkr⟩ := List.exists_cons_of_ne_nil hr
  have hh : s.hd = k := by unfold Sd.hd; rw [hkr]; rfl
  have hf : s.f = el s.fl k := by unfold Sd.f; rw [hh]
  rw [(begin_cd hk).1, hh]
  rw [hh] at hk
  rw [hf] at hc hs
  exact next_ok ⟨g, As, cs, s.fl.map Fl.share, Ac, cc, s.fl.map Fl.credit, Al, cl, l, Ar, cr, s.round, t⟩ k r hkr (by simpa using hk) (by simp) (by dsimp only; rw [el_mapS _ hk]; omega) (by dsimp only; rw [el_mapS _ hk]; omega) w0 w L M
/-- The first one of a flow in which something waits. -/
theorem first_has {s : Sd} (hok : Ok s) (hr : s.round ≠ []) {l : List JX} (h : LFl l s.fl) {r : Int} (hf : FirstOf l (s.hd : Int) r) : ∃ a : Nat, r = (a : Int) ∧ a < l.length ∧ (el l a).flow = (s.hd : Int) ∧ ofF l (s.hd : Int) = el l a :: ofF (l.eraseIdx a) (s.hd : Int) ∧ s.f.jobs = el l a :: ofF (l.eraseIdx a) (s.hd : Int) := by
  obtain ⟨h1, h2, h3⟩ := hok.hd hr
  have e := h.jobs s.hd h2
  obtain ⟨a, q1, q2, q3, q4⟩ := hf.is.2 (by rw [e]; exact h3)
  exact ⟨a, q1, q2, q3, q4, by unfold Sd.f; rw [← e]; exact q4⟩

set_option maxRecDepth 10000 in
set_option maxHeartbeats 4000000 in
theorem RPop_ok (x : RfX) (s : Sd) (his : x.is s) (hok : Ok s) (w0 w : World) (L : List Asr) (M : Mem w0 w (x.L ++ L)) :
    Fn Try.prog 20 [.pointer (some ⟨x.g, 0, none⟩)] w fun v w' => ∃ (x' : RfX) (J : JX), v = .tuple #[J.v, .bool (decide (nJ s.fl ≠ 0))] ∧ x.g = x'.g ∧ Mem w0 w' (x'.L ++ L) ∧ (nJ s.fl = 0 → J = ⟨0, 0, 0⟩ ∧ x'.is s) ∧ (nJ s.fl ≠ 0 → J = popJ s ∧ x'.is (popS s)) := by
  obtain ⟨g, As, cs, sh, Ac, cc, cd, Al, cl, l, Ar, cr, round, turn⟩ := x
  obtain ⟨h1, h2, h3, h4, h5⟩ := his
  dsimp only at h1 h2 h3 h4 h5
  have hlen := hok.len
  have htot := hok.total
  have hl0 := h5.len
  obtain ⟨N, hN⟩ : ∃ N, N = s.fl.length := ⟨_, rfl⟩
  have M1 := M
  unfold RfX.L RfX.row at M
  simp only [List.cons_append, List.nil_append] at M
  dsimp only at M ⊢
  have hlo : ∀ z : Sd, Ok z → z.round ≠ [] → (0 ≤ z.f.credit ∧ z.f.credit ≤ 200000) ∧ (1 ≤ z.f.share ∧ z.f.share ≤ 100000) := fun z hz hr =>
    ⟨hz.lo _ (el_mem (hz.hd hr).2.1), hz.share _ (el_mem (hz.hd hr).2.1)⟩
  refine Fn.enter Try.func20 rfl Try.ntmps20 rfl ?_
  refine W.sub [(0, _)] (.cons rfl .nil) ?_
  refine W.seq ?_
  refine W.region ?_
  refine WL.alloc Try.zeroValue31 M rfl ?_
  intro g0_0 w M
  try simp only [Value.cells] at M
  try simp only [List.toList_toArray] at M
  refine WL.assign rfl rfl ?_
  refine WL.nil ?_
  refine WX.next ?_
  refine W.sub [(0, _), (2, _)] (.cons rfl (.cons rfl .nil)) ?_
  refine W.seq ?_
  refine W.seq ?_
  refine W.region ?_
  refine WL.move rfl rfl ?_
  refine WL.nilCheck rfl rfl ?_
  refine WL.fieldR (off := 2) Try.underlying53 rfl rfl Try.sizeOf27 rfl rfl rfl ?_
  refine WL.loadR Try.isAgg27 rfl M (by first | ((repeat (first | with_reducible exact Has.here | with_reducible refine Has.there ?_)); done) | (repeat (first | exact Has.here | refine Has.there ?_))) rfl rfl ?_
  refine WL.len Try.underlying27 rfl rfl ?_
  refine WL.eqI rfl rfl rfl ?_
  refine WL.nil ?_
  refine WX.next ?_
  refine W.sub [(0, _), (2, _), (14, _)] (.cons rfl (.cons rfl (.cons rfl .nil))) ?_
  refine W.ite rfl (fun c0 => ?_) (fun c0 => ?_)
  · refine W.seq ?_
    refine W.region ?_
    refine WL.buildP (places := #[(0, 1), (1, 1), (2, 1)]) Try.underlying31 Try.zeroValue31 (fun _ => by simp [Try.sizeOf3, Try.sizeOf3, Try.sizeOf29]) rfl (by repeat (first | exact Puts.nil | exact SetAt.zero | apply SetAt.succ | apply Puts.cons rfl rfl)) rfl ?_
    refine WL.storeWA Try.sizeOf31 rfl rfl (by repeat (first | exact oneNil | refine oneCons rfl ?_)) rfl rfl M (by first | ((repeat (first | with_reducible exact Upd.here | with_reducible apply Upd.there)); done) | (repeat (first | exact Upd.here | apply Upd.there))) ?_
    intro w M
    refine WL.assign rfl rfl ?_
    refine WL.nil ?_
    refine WX.next ?_
    refine W.sub [(2, _), (3, _)] (.cons rfl (.cons rfl .nil)) ?_
    refine W.ret ?_
    refine WX.thenRet ?_
    refine WX.retC2 (cs := [_, _, _]) rfl rfl rfl Try.isAgg31 (by exact Try.sizeOf31) (M.cellsH (by first | ((repeat (first | with_reducible exact Has.here | with_reducible refine Has.there ?_)); done) | (repeat (first | exact Has.here | refine Has.there ?_)))) ?_
    have hn0 : nJ s.fl = 0 := by omega
    refine ⟨⟨g, As, cs, sh, Ac, cc, cd, Al, cl, l, Ar, cr, round, turn⟩, ⟨0, 0, 0⟩, by rw [decide_eq_false (fun h => h hn0)]; rfl, rfl, M.sel (by first | ((repeat (first | with_reducible exact Sel.refl | with_reducible exact Sel.nil | with_reducible exact Del.here | with_reducible apply Del.there | with_reducible apply Sel.cons | with_reducible apply Sel.drop)); done) | (repeat (first | exact Sel.refl | exact Sel.nil | exact Del.here | apply Del.there | apply Sel.cons | apply Sel.drop))), fun _ => ⟨rfl, ⟨h1, h2, h3, h4, h5⟩⟩, fun h => absurd hn0 h⟩
  · have hn0 : nJ s.fl ≠ 0 := by omega
    have hr0 : s.round ≠ [] := fun e => hn0 (hok.round.1 e)
    have hP0 := hok.pop0 hn0
    have hhd := hok.hd hr0
    refine W.skip ?_
    refine WX.next ?_
    refine W.joint (fun (z : Sd) => [(0, .pointer (some ⟨g, 0, none⟩)), (2, .pointer (some ⟨g0_0, 0, none⟩))]) (fun j w => Mem w0 w ((fun z => [Asr.row g0_0 31 [.int .i64 0, .int .i64 0, .int .u64 0], Asr.row g 53 [.slice As sh.length cs, .slice Ac (z.fl.map Fl.credit).length cc, .slice Al l.length cl, .slice Ar (ints z.round).length cr, .int .i64 (z.hd : Int)], Asr.lst intE As cs sh, Asr.lst intE Ac cc (z.fl.map Fl.credit), Asr.lst jobE Al cl l, Asr.lst intE Ar cr (ints z.round)] ++ L) j) ∧ (fun z => z = (if s.on then s else beginS s) ∧ sh = z.fl.map Fl.share ∧ LFl l z.fl) j) ?_ ?_
    · refine W.seq ?_
      refine W.region ?_
      refine WL.move rfl rfl ?_
      refine WL.nilCheck rfl rfl ?_
      refine WL.fieldR (off := 4) Try.underlying53 rfl rfl Try.sizeOf3 rfl rfl rfl ?_
      refine WL.loadR Try.isAgg3 rfl M (by first | ((repeat (first | with_reducible exact Has.here | with_reducible refine Has.there ?_)); done) | (repeat (first | exact Has.here | refine Has.there ?_))) rfl rfl ?_
      refine WL.lss rfl rfl rfl ?_
      refine WL.nil ?_
      refine WX.next ?_
      refine W.sub [(0, _), (2, _), (20, _)] (.cons rfl (.cons rfl (.cons rfl .nil))) ?_
      refine W.ite rfl (fun c1 => ?_) (fun c1 => ?_)
      · have hon : s.on = false := by
          cases ho : s.on
          · rfl
          · rw [ho, if_pos rfl] at h4; omega
        rw [h1, h2, h3] at M
        refine W.region ?_
        refine WL.move rfl rfl ?_
        refine WL.call Try.call32 rfl (next2_ok g As cs Ac cc Al cl l Ar cr s turn hr0 hhd.2.1 (hlo s hok hr0).1 (hlo s hok hr0).2 w0 _ (Asr.row g0_0 31 [.int .i64 0, .int .i64 0, .int .u64 0] :: L) (M.sel (by first | ((repeat (first | with_reducible exact Sel.refl | with_reducible exact Sel.nil | with_reducible exact Del.here | with_reducible apply Del.there | with_reducible apply Sel.cons | with_reducible apply Sel.drop)); done) | (repeat (first | exact Sel.refl | exact Sel.nil | exact Del.here | apply Del.there | apply Sel.cons | apply Sel.drop))))) rfl ?_
        rintro _ w M
        unfold RfX.L RfX.row at M
        simp only [List.cons_append, List.nil_append] at M
        try dsimp only at M
        refine WL.nil ?_
        have ha := begin_alike hhd.2.1
        rw [← h1] at M
        refine WX.join (beginS s) (by (repeat' (first | exact envSub.nil | refine envSub.cons ?_ ?_)) <;> first | rfl | (refine congrArg some ?_; refine congrArg (Value.int _) ?_; first | omega | (dsimp only; omega)) | (simp; done) | (refine congrArg some ?_; dsimp only; congr 1; omega) | (simp; omega)) ⟨M.sel (by first | ((repeat (first | with_reducible exact Sel.refl | with_reducible exact Sel.nil | with_reducible exact Del.here | with_reducible apply Del.there | with_reducible apply Sel.cons | with_reducible apply Sel.drop)); done) | (repeat (first | exact Sel.refl | exact Sel.nil | exact Del.here | apply Del.there | apply Sel.cons | apply Sel.drop))), ⟨by rw [hon]; rfl, h1.trans (begin_cd hhd.2.1).2.symm, h5.same ha.len ha.jobs (nJ_begin hhd.2.1)⟩⟩
      · have hon : s.on = true := by
          cases ho : s.on
          · rw [ho, if_neg (by simp)] at h4; omega
          · rfl
        rw [hon, if_pos rfl] at h4
        rw [h2, h3, h4] at M
        refine W.skip ?_
        refine WX.join (s) (by (repeat' (first | exact envSub.nil | refine envSub.cons ?_ ?_)) <;> first | rfl | (refine congrArg some ?_; refine congrArg (Value.int _) ?_; first | omega | (dsimp only; omega)) | (simp; done) | (refine congrArg some ?_; dsimp only; congr 1; omega) | (simp; omega)) ⟨M.sel (by first | ((repeat (first | with_reducible exact Sel.refl | with_reducible exact Sel.nil | with_reducible exact Del.here | with_reducible apply Del.there | with_reducible apply Sel.cons | with_reducible apply Sel.drop)); done) | (repeat (first | exact Sel.refl | exact Sel.nil | exact Del.here | apply Del.there | apply Sel.cons | apply Sel.drop))), ⟨by rw [hon]; rfl, h1, h5⟩⟩
    clear M; rintro (z1) w ⟨M, ⟨hz1, hsz1, hlz1⟩⟩; dsimp only at M hz1 hsz1 hlz1 ⊢
    refine W.sub [(0, _), (2, _)] (.cons rfl (.cons rfl .nil)) ?_
    obtain ⟨hO1, hr1, ho1⟩ : Ok z1 ∧ z1.round ≠ [] ∧ z1.on = true := by rw [hz1]; exact hP0
    have hp1 : popEnd z1 = pop1 s := by unfold pop1; rw [hz1]
    have hlz : z1.fl.length = s.fl.length := by have := congrArg List.length hsz1; rw [h1] at this; simpa using this.symm
    refine W.seq ?_
    refine W.region ?_
    refine WL.move rfl rfl ?_
    refine WL.move rfl rfl ?_
    refine WL.nilCheck rfl rfl ?_
    refine WL.fieldR (off := 4) Try.underlying53 rfl rfl Try.sizeOf3 rfl rfl rfl ?_
    refine WL.loadR Try.isAgg3 rfl M (by first | ((repeat (first | with_reducible exact Has.here | with_reducible refine Has.there ?_)); done) | (repeat (first | exact Has.here | refine Has.there ?_))) rfl rfl ?_
    refine WL.call Try.call33 rfl (first_ok ⟨g, As, cs, sh, Ac, cc, z1.fl.map Fl.credit, Al, cl, l, Ar, cr, z1.round, (z1.hd : Int)⟩ (by dsimp only; omega) (z1.hd : Int) w0 w (Asr.row g0_0 31 [.int .i64 0, .int .i64 0, .int .u64 0] :: L) (M.sel (by first | ((repeat (first | with_reducible exact Sel.refl | with_reducible exact Sel.nil | with_reducible exact Del.here | with_reducible apply Del.there | with_reducible apply Sel.cons | with_reducible apply Sel.drop)); done) | (repeat (first | exact Sel.refl | exact Sel.nil | exact Del.here | apply Del.there | apply Sel.cons | apply Sel.drop))))) rfl ?_
    rintro _ w ⟨r, rfl, hfo, M⟩
    unfold RfX.L RfX.row at M
    simp only [List.cons_append, List.nil_append] at M
    obtain ⟨a1, rfl, ha1⟩ := first_has hO1 hr1 hlz1 hfo
    refine WL.assign rfl rfl ?_
    refine WL.nil ?_
    refine WX.next ?_
    refine W.sub [(0, _), (2, _), (4, _)] (.cons rfl (.cons rfl (.cons rfl .nil))) ?_
    refine W.seq ?_
    refine W.block ?_
    refine W.loop (ι := Sd × (Option Addr × Nat) × Nat) (fun z => [(0, .pointer (some ⟨g, 0, none⟩)), (2, .pointer (some ⟨g0_0, 0, none⟩)), (4, .int .i64 (z.2.2 : Int))]) (fun zz w => Mem w0 w ((fun z => [Asr.row g0_0 31 [.int .i64 0, .int .i64 0, .int .u64 0], Asr.row g 53 [.slice As sh.length cs, .slice Ac (z.1.fl.map Fl.credit).length cc, .slice Al l.length cl, .slice z.2.1.1 (ints z.1.round).length z.2.1.2, .int .i64 (z.1.hd : Int)], Asr.lst intE As cs sh, Asr.lst intE Ac cc (z.1.fl.map Fl.credit), Asr.lst jobE Al cl l, Asr.lst intE z.2.1.1 z.2.1.2 (ints z.1.round)] ++ L) zz) ∧ (fun z => Ok z.1 ∧ z.1.round ≠ [] ∧ z.1.on = true ∧ popEnd z.1 = pop1 s ∧ sh = z.1.fl.map Fl.share ∧ LFl l z.1.fl ∧ z.1.fl.length = s.fl.length ∧ z.2.2 < l.length ∧ (el l z.2.2).flow = (z.1.hd : Int) ∧ ofF l (z.1.hd : Int) = el l z.2.2 :: ofF (l.eraseIdx z.2.2) (z.1.hd : Int) ∧ z.1.f.jobs = el l z.2.2 :: ofF (l.eraseIdx z.2.2) (z.1.hd : Int)) zz) (fun z => phi z.1.fl) ((z1, (Ar, cr), a1)) (by (repeat' (first | exact envSub.nil | refine envSub.cons ?_ ?_)) <;> first | rfl | (refine congrArg some ?_; refine congrArg (Value.int _) ?_; first | omega | (dsimp only; omega)) | (simp; done) | (refine congrArg some ?_; dsimp only; congr 1; omega) | (simp; omega)) ⟨M.sel (by first | ((repeat (first | with_reducible exact Sel.refl | with_reducible exact Sel.nil | with_reducible exact Del.here | with_reducible apply Del.there | with_reducible apply Sel.cons | with_reducible apply Sel.drop)); done) | (repeat (first | exact Sel.refl | exact Sel.nil | exact Del.here | apply Del.there | apply Sel.cons | apply Sel.drop))), ⟨hO1, hr1, ho1, hp1, hsz1, hlz1, hlz, ha1⟩⟩ ?_
    clear M; rintro (⟨z2, ⟨Ar2, cr2⟩, a2⟩) w ⟨M, ⟨hO2, hr2, ho2, hp2, hsz2, hlz2, hl2, ha2, hf2, hq2, hj2⟩⟩; dsimp only at M hO2 hr2 ho2 hp2 hsz2 hlz2 hl2 ha2 hf2 hq2 hj2 ⊢
    refine W.sub [(0, _), (2, _), (4, _)] (.cons rfl (.cons rfl (.cons rfl .nil))) ?_
    refine W.seq ?_
    refine W.seq ?_
    obtain ⟨k, hk⟩ : ∃ k, z2.hd = k := ⟨_, rfl⟩
    have hhd2 := hO2.hd hr2
    have hhd3 := hO2.hd hr2
    have hlo2 := hlo z2 hO2 hr2
    rw [hk] at M hf2 hq2 hj2 hhd2
    have hkl : k < (z2.fl.map Fl.credit).length := by simp; omega
    have hcr : el (z2.fl.map Fl.credit) k = z2.f.credit := by rw [el_mapS _ hhd2.2.1]; unfold Sd.f; rw [hk]
    have hgo : goes z2 ↔ el (z2.fl.map Fl.credit) k < (el l a2).cost := by unfold goes; rw [hcr, hj2]; rfl
    have hrl : z2.round.length ≤ 100 := by
      have := nodup_lt' z2.fl.length z2.round hO2.nodup (fun y hy => ((hO2.mem y).1 hy).1)
      omega
    have hrtl : (ints z2.round.tail).length ≤ 100 := by simp; omega
    refine W.drawM ([Asr.row g 53 [.slice As sh.length cs, .slice Ac (z2.fl.map Fl.credit).length cc, .slice Al l.length cl, .slice Ar2 (ints z2.round).length cr2, .int .i64 (k : Int)], Asr.lst jobE Al cl l, Asr.lst intE Ac cc (z2.fl.map Fl.credit)]) (by kernel_rfl) (fun j => [3, 5, 6, 7, 11, 15, 16, 17].contains j) M (by first | ((repeat (first | with_reducible exact Sel.refl | with_reducible exact Sel.nil | with_reducible exact Del.here | with_reducible apply Del.there | with_reducible apply Sel.cons | with_reducible apply Sel.drop)); done) | (repeat (first | exact Sel.refl | exact Sel.nil | exact Del.here | apply Del.there | apply Sel.cons | apply Sel.drop))) ?_
    clear M; intro M
    apply DG.pure_ [0, 1, 2, 4, 8, 9, 10, 12, 13, 14] 9 rfl (by kernel_rfl) (by kernel_rfl)
    · intro w
      refine WL.move rfl rfl ?_
      refine WL.nilCheck rfl rfl ?_
      refine WL.fieldR (off := 2) Try.underlying53 rfl rfl Try.sizeOf27 rfl rfl rfl ?_
      refine WL.move rfl rfl ?_
      refine WL.move rfl rfl ?_
      refine WL.nilCheck rfl rfl ?_
      refine WL.fieldR (off := 1) Try.underlying53 rfl rfl Try.sizeOf22 rfl rfl rfl ?_
      refine WL.move rfl rfl ?_
      refine WL.nilCheck rfl rfl ?_
      refine WL.fieldR (off := 4) Try.underlying53 rfl rfl Try.sizeOf3 rfl rfl rfl ?_
      exact Chain.end_ rfl
    apply DG.take [3, 5, 6, 7, 11, 15, 16, 17, 18] 0 rfl (by kernel_rfl) (by kernel_rfl) (M.sel (by first | ((repeat (first | with_reducible exact Sel.refl | with_reducible exact Sel.nil | with_reducible exact Del.here | with_reducible apply Del.there | with_reducible apply Sel.cons | with_reducible apply Sel.drop)); done) | (repeat (first | exact Sel.refl | exact Sel.nil | exact Del.here | apply Del.there | apply Sel.cons | apply Sel.drop))))
    · intro w M
      refine WL.loadR Try.isAgg27 rfl M (by first | ((repeat (first | with_reducible exact Has.here | with_reducible refine Has.there ?_)); done) | (repeat (first | exact Has.here | refine Has.there ?_))) rfl rfl ?_
      refine WL.idxA Try.underlying27 Try.sizeOf31 rfl rfl (RdL.isSome (E := jobE) (by first | with_reducible assumption | with_reducible exact RdL.mem (by with_reducible assumption) M | exact M.rdL (by first | ((repeat (first | with_reducible exact Has.here | with_reducible refine Has.there ?_)); done) | (repeat (first | exact Has.here | refine Has.there ?_))) | exact RdLH.at (by assumption) (M.sel (by first | ((repeat (first | with_reducible exact Sel.refl | with_reducible exact Sel.nil | with_reducible exact Del.here | with_reducible apply Del.there | with_reducible apply Sel.cons | with_reducible apply Sel.drop)); done) | (repeat (first | exact Sel.refl | exact Sel.nil | exact Del.here | apply Del.there | apply Sel.cons | apply Sel.drop)))) | exact RdL.nil _ _ _) (by omega)) (by omega) (by omega) (by first | exact rfl | exact (Int.toNat_of_nonneg (by omega)).symm) rfl ?_
      refine WL.fieldA (off := 1) Try.underlying31 rfl rfl Try.sizeOf3 rfl rfl rfl ?_
      refine WL.loadE (E := jobE) Try.isAgg3 rfl (by first | with_reducible assumption | with_reducible exact RdL.mem (by with_reducible assumption) M | exact M.rdL (by first | ((repeat (first | with_reducible exact Has.here | with_reducible refine Has.there ?_)); done) | (repeat (first | exact Has.here | refine Has.there ?_))) | exact RdLH.at (by assumption) (M.sel (by first | ((repeat (first | with_reducible exact Sel.refl | with_reducible exact Sel.nil | with_reducible exact Del.here | with_reducible apply Del.there | with_reducible apply Sel.cons | with_reducible apply Sel.drop)); done) | (repeat (first | exact Sel.refl | exact Sel.nil | exact Del.here | apply Del.there | apply Sel.cons | apply Sel.drop)))) | exact RdL.nil _ _ _) (by omega) rfl rfl ?_
      refine WL.loadR Try.isAgg22 rfl M (by first | ((repeat (first | with_reducible exact Has.here | with_reducible refine Has.there ?_)); done) | (repeat (first | exact Has.here | refine Has.there ?_))) rfl rfl ?_
      refine WL.loadR Try.isAgg3 rfl M (by first | ((repeat (first | with_reducible exact Has.here | with_reducible refine Has.there ?_)); done) | (repeat (first | exact Has.here | refine Has.there ?_))) rfl rfl ?_
      refine WL.idxA Try.underlying22 Try.sizeOf3 rfl rfl (RdL.isSome (E := intE) (by first | with_reducible assumption | with_reducible exact RdL.mem (by with_reducible assumption) M | exact M.rdL (by first | ((repeat (first | with_reducible exact Has.here | with_reducible refine Has.there ?_)); done) | (repeat (first | exact Has.here | refine Has.there ?_))) | exact RdLH.at (by assumption) (M.sel (by first | ((repeat (first | with_reducible exact Sel.refl | with_reducible exact Sel.nil | with_reducible exact Del.here | with_reducible apply Del.there | with_reducible apply Sel.cons | with_reducible apply Sel.drop)); done) | (repeat (first | exact Sel.refl | exact Sel.nil | exact Del.here | apply Del.there | apply Sel.cons | apply Sel.drop)))) | exact RdL.nil _ _ _) (by omega)) (by omega) (by omega) (by first | exact rfl | exact (Int.toNat_of_nonneg (by omega)).symm) rfl ?_
      refine WL.loadE0 (E := intE) Try.isAgg3 rfl (by first | with_reducible assumption | with_reducible exact RdL.mem (by with_reducible assumption) M | exact M.rdL (by first | ((repeat (first | with_reducible exact Has.here | with_reducible refine Has.there ?_)); done) | (repeat (first | exact Has.here | refine Has.there ?_))) | exact RdLH.at (by assumption) (M.sel (by first | ((repeat (first | with_reducible exact Sel.refl | with_reducible exact Sel.nil | with_reducible exact Del.here | with_reducible apply Del.there | with_reducible apply Sel.cons | with_reducible apply Sel.drop)); done) | (repeat (first | exact Sel.refl | exact Sel.nil | exact Del.here | apply Del.there | apply Sel.cons | apply Sel.drop)))) | exact RdL.nil _ _ _) (by omega) rfl rfl ?_
      refine WL.gtr rfl rfl rfl ?_
      exact Chain.end_ rfl
    refine DG.end_ (by kernel_rfl) ?_
    refine WX.next ?_
    refine W.sub [(0, _), (2, _), (4, _), (47, _)] (.cons rfl (.cons rfl (.cons rfl (.cons rfl .nil)))) ?_
    refine W.ite rfl (fun c2 => ?_) (fun c2 => ?_)
    · have hg2 : goes z2 := hgo.2 c2
      have hst := hO2.step hr2 hg2 ho2
      have hpe := popEnd_step hO2 hr2 hg2 ho2
      have hal := step_alike hO2 hr2 hg2 ho2
      have hrr : (rotS z2).round = z2.round.tail ++ [k] := by unfold rotS; rw [hk]
      have hR := hO2.rot hr2 hg2 ho2
      have hrn : (rotS z2).round ≠ [] := hd_rot hhd3.1
      have hrh := (hR.hd (s := ⟨z2.fl, (rotS z2).round, false⟩) hrn).2.1
      have hRl := hlo _ hR hrn
      have hnJ3 : nJ (stepS z2).fl = nJ z2.fl := nJ_begin (s := rotS z2) hrh
      have hlz3 : LFl l (stepS z2).fl := hlz2.same hal.len hal.jobs hnJ3
      have hbc := begin_cd (s := rotS z2) hrh
      refine W.skip ?_
      refine WX.next ?_
      refine W.block ?_
      refine W.seq ?_
      refine W.region ?_
      refine WL.move rfl rfl ?_
      refine WL.call Try.call34 rfl (behind_ok ⟨g, As, cs, sh, Ac, cc, z2.fl.map Fl.credit, Al, cl, l, Ar2, cr2, z2.round, (k : Int)⟩ hrl w0 _ (Asr.row g0_0 31 [.int .i64 0, .int .i64 0, .int .u64 0] :: L) (M.sel (by first | ((repeat (first | with_reducible exact Sel.refl | with_reducible exact Sel.nil | with_reducible exact Del.here | with_reducible apply Del.there | with_reducible apply Sel.cons | with_reducible apply Sel.drop)); done) | (repeat (first | exact Sel.refl | exact Sel.nil | exact Del.here | apply Del.there | apply Sel.cons | apply Sel.drop))))) rfl ?_
      rintro _ w ⟨A7, c7, rfl, M⟩
      unfold RfX.L RfX.row at M
      simp only [List.cons_append, List.nil_append] at M
      refine WL.assign rfl rfl ?_
      refine WL.nil ?_
      refine WX.next ?_
      refine W.sub [(0, _), (2, _), (5, _)] (.cons rfl (.cons rfl (.cons rfl .nil))) ?_
      refine W.seq ?_
      refine W.region ?_
      refine WL.move rfl rfl ?_
      refine WL.move rfl rfl ?_
      refine WL.nilCheck rfl rfl ?_
      refine WL.fieldR (off := 4) Try.underlying53 rfl rfl Try.sizeOf3 rfl rfl rfl ?_
      refine WL.loadR Try.isAgg3 rfl M (by first | ((repeat (first | with_reducible exact Has.here | with_reducible refine Has.there ?_)); done) | (repeat (first | exact Has.here | refine Has.there ?_))) rfl rfl ?_
      refine WL.buildL (E := intE) (l := [(k : Int)]) Try.elem3 M rfl rfl rfl rfl rfl rfl ?_
      intro g8_5 w M
      refine WL.appendL (E := intE) Try.elem3 rfl rfl M (by first | ((repeat (first | with_reducible exact Del.here | with_reducible apply Del.there)); done) | (repeat (first | exact Del.here | apply Del.there))) (by first | with_reducible assumption | with_reducible exact RdL.mem (by with_reducible assumption) M | exact M.rdL (by first | ((repeat (first | with_reducible exact Has.here | with_reducible refine Has.there ?_)); done) | (repeat (first | exact Has.here | refine Has.there ?_))) | exact RdLH.at (by assumption) (M.sel (by first | ((repeat (first | with_reducible exact Sel.refl | with_reducible exact Sel.nil | with_reducible exact Del.here | with_reducible apply Del.there | with_reducible apply Sel.cons | with_reducible apply Sel.drop)); done) | (repeat (first | exact Sel.refl | exact Sel.nil | exact Del.here | apply Del.there | apply Sel.cons | apply Sel.drop)))) | exact RdL.nil _ _ _) rfl rfl (by first | omega | (simp; done) | (simp; omega)) (by first | (simp only [maxLen]; omega) | (simp [maxLen]; done) | (simp [maxLen]; omega)) rfl ?_
      intro A8_6 cap8_6 w M
      refine WL.assign rfl rfl ?_
      refine WL.nil ?_
      refine WX.next ?_
      refine W.sub [(0, _), (2, _), (5, _)] (.cons rfl (.cons rfl (.cons rfl .nil))) ?_
      refine W.seq ?_
      refine W.region ?_
      refine WL.move rfl rfl ?_
      refine WL.move rfl rfl ?_
      refine WL.nilCheck rfl rfl ?_
      refine WL.fieldR (off := 3) Try.underlying53 rfl rfl Try.sizeOf22 rfl rfl rfl ?_
      refine WL.storeR Try.sizeOf22 rfl rfl rfl M (by first | ((repeat (first | with_reducible exact Has.here | with_reducible refine Has.there ?_)); done) | (repeat (first | exact Has.here | refine Has.there ?_))) (by repeat (first | exact SetAt.zero | apply SetAt.succ)) (by first | ((repeat (first | with_reducible exact Upd.here | with_reducible apply Upd.there)); done) | (repeat (first | exact Upd.here | apply Upd.there))) ?_
      intro w M
      refine WL.nil ?_
      refine WX.next ?_
      refine W.sub [(0, _), (2, _)] (.cons rfl (.cons rfl .nil)) ?_
      refine W.seq ?_
      rw [show ints z2.round.tail ++ [(k : Int)] = ints (rotS z2).round by rw [hrr]; simp, hsz2] at M
      refine W.region ?_
      refine WL.move rfl rfl ?_
      refine WL.call Try.call32 rfl (next2_ok g As cs Ac cc Al cl l A8_6 cap8_6 (rotS z2) (k : Int) hrn hrh hRl.1 hRl.2 w0 _ (Asr.row g0_0 31 [.int .i64 0, .int .i64 0, .int .u64 0] :: L) (M.sel (by first | ((repeat (first | with_reducible exact Sel.refl | with_reducible exact Sel.nil | with_reducible exact Del.here | with_reducible apply Del.there | with_reducible apply Sel.cons | with_reducible apply Sel.drop)); done) | (repeat (first | exact Sel.refl | exact Sel.nil | exact Del.here | apply Del.there | apply Sel.cons | apply Sel.drop))))) rfl ?_
      rintro _ w M
      unfold RfX.L RfX.row at M
      simp only [List.cons_append, List.nil_append] at M
      try dsimp only at M
      refine WL.nil ?_
      refine WX.next ?_
      refine W.sub [(0, _), (2, _)] (.cons rfl (.cons rfl .nil)) ?_
      rw [show (rotS z2).fl.map Fl.share = sh from hsz2.symm, show beginS (rotS z2) = stepS z2 from rfl, show (rotS z2).hd = (stepS z2).hd from rfl, show (rotS z2).round = (stepS z2).round from rfl] at M
      refine W.region ?_
      refine WL.move rfl rfl ?_
      refine WL.move rfl rfl ?_
      refine WL.nilCheck rfl rfl ?_
      refine WL.fieldR (off := 4) Try.underlying53 rfl rfl Try.sizeOf3 rfl rfl rfl ?_
      refine WL.loadR Try.isAgg3 rfl M (by first | ((repeat (first | with_reducible exact Has.here | with_reducible refine Has.there ?_)); done) | (repeat (first | exact Has.here | refine Has.there ?_))) rfl rfl ?_
      refine WL.call Try.call33 rfl (first_ok ⟨g, As, cs, sh, Ac, cc, (stepS z2).fl.map Fl.credit, Al, cl, l, A8_6, cap8_6, (stepS z2).round, ((stepS z2).hd : Int)⟩ (by dsimp only; omega) ((stepS z2).hd : Int) w0 w (Asr.row g0_0 31 [.int .i64 0, .int .i64 0, .int .u64 0] :: L) (M.sel (by first | ((repeat (first | with_reducible exact Sel.refl | with_reducible exact Sel.nil | with_reducible exact Del.here | with_reducible apply Del.there | with_reducible apply Sel.cons | with_reducible apply Sel.drop)); done) | (repeat (first | exact Sel.refl | exact Sel.nil | exact Del.here | apply Del.there | apply Sel.cons | apply Sel.drop))))) rfl ?_
      rintro _ w ⟨r, rfl, hfo, M⟩
      unfold RfX.L RfX.row at M
      simp only [List.cons_append, List.nil_append] at M
      obtain ⟨a3, rfl, ha3⟩ := first_has hst.1 hst.2.1 hlz3 hfo
      refine WL.assign rfl rfl ?_
      refine WL.nil ?_
      refine WX.blockNormal ?_
      refine WX.round ((stepS z2, (A8_6, cap8_6), a3)) (by (repeat' (first | exact envSub.nil | refine envSub.cons ?_ ?_)) <;> first | rfl | (refine congrArg some ?_; refine congrArg (Value.int _) ?_; first | omega | (dsimp only; omega)) | (simp; done) | (refine congrArg some ?_; dsimp only; congr 1; omega) | (simp; omega)) ⟨M.sel (by first | ((repeat (first | with_reducible exact Sel.refl | with_reducible exact Sel.nil | with_reducible exact Del.here | with_reducible apply Del.there | with_reducible apply Sel.cons | with_reducible apply Sel.drop)); done) | (repeat (first | exact Sel.refl | exact Sel.nil | exact Del.here | apply Del.there | apply Sel.cons | apply Sel.drop))), ⟨hst.1, hst.2.1, hst.2.2.1, hpe.symm.trans hp2, hsz2.trans hbc.2.symm, hlz3, hal.len.trans hl2, ha3⟩⟩ hst.2.2.2
    · have hg2 : ¬ goes z2 := fun h => c2 (hgo.1 h)
      rw [popEnd_stop hg2] at hp2
      obtain ⟨js, hjs⟩ : ∃ js, ofF (l.eraseIdx a2) (k : Int) = js := ⟨_, rfl⟩
      have hkf : k < z2.fl.length := hhd2.2.1
      have hfk : z2.f = el z2.fl k := by unfold Sd.f; rw [hk]
      have hjk : (el z2.fl k).jobs = el l a2 :: js := by rw [← hfk, hj2, hjs]
      have hco := (hO2.jobs k hkf (el l a2) (by rw [hjk]; simp)).2
      have hJ : popJ s = el l a2 := by unfold popJ takeJ; rw [← hp2, hj2]; rfl
      have hT : popS s = ⟨z2.fl.set k ⟨z2.f.share, if js = [] then 0 else z2.f.credit - (el l a2).cost, js⟩, if js = [] then z2.round.tail else z2.round, if js = [] then false else true⟩ := by
        unfold popS
        rw [← hp2]
        unfold takeS takeJ
        rw [hj2, hk, ho2, hjs]
        rfl
      have hL := hlz2.pop (i := a2) (k := k) (f := ⟨z2.f.share, if js = [] then 0 else z2.f.credit - (el l a2).cost, js⟩) ha2 hkf hf2 hq2 hjk rfl
      have hle : (l.eraseIdx a2).length ≤ 1024 := by rw [List.length_eraseIdx, if_pos ha2]; omega
      refine W.exit ?_
      refine WX.thenExit ?_
      refine WX.thenExit ?_
      refine WX.blockHere ?_
      refine WX.next ?_
      refine W.seq ?_
      refine W.region ?_
      refine WL.move rfl rfl ?_
      refine WL.nilCheck rfl rfl ?_
      refine WL.fieldR (off := 2) Try.underlying53 rfl rfl Try.sizeOf27 rfl rfl rfl ?_
      refine WL.loadR Try.isAgg27 rfl M (by first | ((repeat (first | with_reducible exact Has.here | with_reducible refine Has.there ?_)); done) | (repeat (first | exact Has.here | refine Has.there ?_))) rfl rfl ?_
      refine WL.move rfl rfl ?_
      refine WL.idxA Try.underlying27 Try.sizeOf31 rfl rfl (RdL.isSome (E := jobE) (by first | with_reducible assumption | with_reducible exact RdL.mem (by with_reducible assumption) M | exact M.rdL (by first | ((repeat (first | with_reducible exact Has.here | with_reducible refine Has.there ?_)); done) | (repeat (first | exact Has.here | refine Has.there ?_))) | exact RdLH.at (by assumption) (M.sel (by first | ((repeat (first | with_reducible exact Sel.refl | with_reducible exact Sel.nil | with_reducible exact Del.here | with_reducible apply Del.there | with_reducible apply Sel.cons | with_reducible apply Sel.drop)); done) | (repeat (first | exact Sel.refl | exact Sel.nil | exact Del.here | apply Del.there | apply Sel.cons | apply Sel.drop)))) | exact RdL.nil _ _ _) (by omega)) (by omega) (by omega) (by first | exact rfl | exact (Int.toNat_of_nonneg (by omega)).symm) rfl ?_
      refine WL.loadL (E := jobE) (cs := [_, _, _]) Try.isAgg31 Try.sizeOf31 rfl (by first | with_reducible assumption | with_reducible exact RdL.mem (by with_reducible assumption) M | exact M.rdL (by first | ((repeat (first | with_reducible exact Has.here | with_reducible refine Has.there ?_)); done) | (repeat (first | exact Has.here | refine Has.there ?_))) | exact RdLH.at (by assumption) (M.sel (by first | ((repeat (first | with_reducible exact Sel.refl | with_reducible exact Sel.nil | with_reducible exact Del.here | with_reducible apply Del.there | with_reducible apply Sel.cons | with_reducible apply Sel.drop)); done) | (repeat (first | exact Sel.refl | exact Sel.nil | exact Del.here | apply Del.there | apply Sel.cons | apply Sel.drop)))) | exact RdL.nil _ _ _) rfl (by omega) rfl rfl ?_
      refine WL.alloc Try.zeroValue31 M rfl ?_
      intro g12_7 w M
      try simp only [Value.cells] at M
      try simp only [List.toList_toArray] at M
      refine WL.storeWA Try.sizeOf31 rfl rfl (by repeat (first | exact oneNil | refine oneCons rfl ?_)) rfl rfl M (by first | ((repeat (first | with_reducible exact Upd.here | with_reducible apply Upd.there)); done) | (repeat (first | exact Upd.here | apply Upd.there))) ?_
      intro w M
      refine WL.nil ?_
      refine WX.next ?_
      refine W.sub [(0, _), (2, _), (4, _), (6, _)] (.cons rfl (.cons rfl (.cons rfl (.cons rfl .nil)))) ?_
      refine W.seq ?_
      refine W.region ?_
      refine WL.assign rfl rfl ?_
      refine WL.nil ?_
      refine WX.next ?_
      refine W.sub [(0, _), (2, _), (4, _), (6, _), (7, _)] (.cons rfl (.cons rfl (.cons rfl (.cons rfl (.cons rfl .nil))))) ?_
      refine W.seq ?_
      refine W.seq ?_
      have M2 : Mem w0 w (Asr.lst jobE none 0 [] :: _) := M.nilOwn 31 3
      replace M := M2
      rw [hf2] at M
      refine W.region ?_
      refine WL.assign rfl rfl ?_
      refine WL.nil ?_
      refine WX.next ?_
      refine W.sub [(0, _), (2, _), (4, _), (6, _), (7, _), (8, _)] (.cons rfl (.cons rfl (.cons rfl (.cons rfl (.cons rfl (.cons rfl .nil)))))) ?_
      refine W.block ?_
      refine W.loop (ι := Nat × (Option Addr × Nat)) (fun z => [(0, .pointer (some ⟨g, 0, none⟩)), (2, .pointer (some ⟨g0_0, 0, none⟩)), (4, .int .i64 (a2 : Int)), (6, .pointer (some ⟨g12_7, 0, none⟩)), (7, .slice z.2.1 ((l.take z.1).eraseIdx a2).length z.2.2), (8, .int .i64 (z.1 : Int))]) (fun zz w => Mem w0 w ((fun z => [Asr.lst jobE z.2.1 z.2.2 ((l.take z.1).eraseIdx a2), Asr.row g12_7 31 [.int .i64 (k : Int), .int .i64 (el l a2).cost, .int .u64 ((el l a2).id : Int)], Asr.row g0_0 31 [.int .i64 0, .int .i64 0, .int .u64 0], Asr.row g 53 [.slice As sh.length cs, .slice Ac (z2.fl.map Fl.credit).length cc, .slice Al l.length cl, .slice Ar2 (ints z2.round).length cr2, .int .i64 (k : Int)], Asr.lst intE As cs sh, Asr.lst intE Ac cc (z2.fl.map Fl.credit), Asr.lst jobE Al cl l, Asr.lst intE Ar2 cr2 (ints z2.round)] ++ L) zz) ∧ (fun z => z.1 ≤ l.length) zz) (fun z => l.length - z.1) ((0, (none, 0))) (by (repeat' (first | exact envSub.nil | refine envSub.cons ?_ ?_)) <;> first | rfl | (refine congrArg some ?_; refine congrArg (Value.int _) ?_; first | omega | (dsimp only; omega)) | (simp; done) | (refine congrArg some ?_; dsimp only; congr 1; omega) | (simp; omega)) ⟨M.sel (by first | ((repeat (first | with_reducible exact Sel.refl | with_reducible exact Sel.nil | with_reducible exact Del.here | with_reducible apply Del.there | with_reducible apply Sel.cons | with_reducible apply Sel.drop)); done) | (repeat (first | exact Sel.refl | exact Sel.nil | exact Del.here | apply Del.there | apply Sel.cons | apply Sel.drop))), Nat.zero_le _⟩ ?_
      clear M; rintro (⟨i, ⟨B, cB⟩⟩) w ⟨M, hi⟩; dsimp only at M hi ⊢
      refine W.sub [(0, _), (2, _), (4, _), (6, _), (7, _), (8, _)] (.cons rfl (.cons rfl (.cons rfl (.cons rfl (.cons rfl (.cons rfl .nil)))))) ?_
      refine W.seq ?_
      refine W.seq ?_
      refine W.region ?_
      refine WL.move rfl rfl ?_
      refine WL.move rfl rfl ?_
      refine WL.nilCheck rfl rfl ?_
      refine WL.fieldR (off := 2) Try.underlying53 rfl rfl Try.sizeOf27 rfl rfl rfl ?_
      refine WL.loadR Try.isAgg27 rfl M (by first | ((repeat (first | with_reducible exact Has.here | with_reducible refine Has.there ?_)); done) | (repeat (first | exact Has.here | refine Has.there ?_))) rfl rfl ?_
      refine WL.len Try.underlying27 rfl rfl ?_
      refine WL.lss rfl rfl rfl ?_
      refine WL.nil ?_
      refine WX.next ?_
      refine W.sub [(0, _), (2, _), (4, _), (6, _), (7, _), (8, _), (82, _)] (.cons rfl (.cons rfl (.cons rfl (.cons rfl (.cons rfl (.cons rfl (.cons rfl .nil))))))) ?_
      refine W.ite rfl (fun c3 => ?_) (fun c3 => ?_)
      · have hli : i < l.length := by omega
        have hes := erase_step (l := l) (a := a2) hli
        have hel : ((l.take i).eraseIdx a2).length ≤ 1024 := by
          have := List.length_eraseIdx_le (l.take i) a2
          rw [List.length_take] at this
          omega
        refine W.skip ?_
        refine WX.next ?_
        refine W.seq ?_
        refine W.block ?_
        refine W.seq ?_
        refine W.region ?_
        refine WL.move rfl rfl ?_
        refine WL.move rfl rfl ?_
        refine WL.neI rfl rfl rfl ?_
        refine WL.nil ?_
        refine WX.next ?_
        refine W.sub [(0, _), (2, _), (4, _), (6, _), (7, _), (8, _), (87, _)] (.cons rfl (.cons rfl (.cons rfl (.cons rfl (.cons rfl (.cons rfl (.cons rfl .nil))))))) ?_
        refine W.ite rfl (fun c4 => ?_) (fun c4 => ?_)
        · refine W.region ?_
          refine WL.move rfl rfl ?_
          refine WL.move rfl rfl ?_
          refine WL.nilCheck rfl rfl ?_
          refine WL.fieldR (off := 2) Try.underlying53 rfl rfl Try.sizeOf27 rfl rfl rfl ?_
          refine WL.loadR Try.isAgg27 rfl M (by first | ((repeat (first | with_reducible exact Has.here | with_reducible refine Has.there ?_)); done) | (repeat (first | exact Has.here | refine Has.there ?_))) rfl rfl ?_
          refine WL.move rfl rfl ?_
          refine WL.idxA Try.underlying27 Try.sizeOf31 rfl rfl (RdL.isSome (E := jobE) (by first | with_reducible assumption | with_reducible exact RdL.mem (by with_reducible assumption) M | exact M.rdL (by first | ((repeat (first | with_reducible exact Has.here | with_reducible refine Has.there ?_)); done) | (repeat (first | exact Has.here | refine Has.there ?_))) | exact RdLH.at (by assumption) (M.sel (by first | ((repeat (first | with_reducible exact Sel.refl | with_reducible exact Sel.nil | with_reducible exact Del.here | with_reducible apply Del.there | with_reducible apply Sel.cons | with_reducible apply Sel.drop)); done) | (repeat (first | exact Sel.refl | exact Sel.nil | exact Del.here | apply Del.there | apply Sel.cons | apply Sel.drop)))) | exact RdL.nil _ _ _) (by omega)) (by omega) (by omega) (by first | exact rfl | exact (Int.toNat_of_nonneg (by omega)).symm) rfl ?_
          refine WL.loadL (E := jobE) (cs := [_, _, _]) Try.isAgg31 Try.sizeOf31 rfl (by first | with_reducible assumption | with_reducible exact RdL.mem (by with_reducible assumption) M | exact M.rdL (by first | ((repeat (first | with_reducible exact Has.here | with_reducible refine Has.there ?_)); done) | (repeat (first | exact Has.here | refine Has.there ?_))) | exact RdLH.at (by assumption) (M.sel (by first | ((repeat (first | with_reducible exact Sel.refl | with_reducible exact Sel.nil | with_reducible exact Del.here | with_reducible apply Del.there | with_reducible apply Sel.cons | with_reducible apply Sel.drop)); done) | (repeat (first | exact Sel.refl | exact Sel.nil | exact Del.here | apply Del.there | apply Sel.cons | apply Sel.drop)))) | exact RdL.nil _ _ _) rfl (by omega) rfl rfl ?_
          refine WL.buildL (E := jobE) (l := [el l i]) Try.elem31 M rfl rfl rfl rfl rfl rfl ?_
          intro g18_8 w M
          refine WL.appendL (E := jobE) Try.elem31 rfl rfl M (by first | ((repeat (first | with_reducible exact Del.here | with_reducible apply Del.there)); done) | (repeat (first | exact Del.here | apply Del.there))) (by first | with_reducible assumption | with_reducible exact RdL.mem (by with_reducible assumption) M | exact M.rdL (by first | ((repeat (first | with_reducible exact Has.here | with_reducible refine Has.there ?_)); done) | (repeat (first | exact Has.here | refine Has.there ?_))) | exact RdLH.at (by assumption) (M.sel (by first | ((repeat (first | with_reducible exact Sel.refl | with_reducible exact Sel.nil | with_reducible exact Del.here | with_reducible apply Del.there | with_reducible apply Sel.cons | with_reducible apply Sel.drop)); done) | (repeat (first | exact Sel.refl | exact Sel.nil | exact Del.here | apply Del.there | apply Sel.cons | apply Sel.drop)))) | exact RdL.nil _ _ _) rfl rfl (by first | omega | (simp; done) | (simp; omega)) (by first | (simp only [maxLen]; omega) | (simp [maxLen]; done) | (simp [maxLen]; omega)) rfl ?_
          intro A18_9 cap18_9 w M
          refine WL.assign rfl rfl ?_
          refine WL.nil ?_
          refine WX.blockNormal ?_
          refine WX.next ?_
          refine W.sub [(0, _), (2, _), (4, _), (6, _), (7, _), (8, _)] (.cons rfl (.cons rfl (.cons rfl (.cons rfl (.cons rfl (.cons rfl .nil)))))) ?_
          refine W.region ?_
          refine WL.move rfl rfl ?_
          refine WL.add rfl rfl (by first | exact wI64 (by omega) | rfl) rfl ?_
          refine WL.assign rfl rfl ?_
          refine WL.nil ?_
          skip
          rw [if_neg (by omega)] at hes
          rw [← hes] at M ⊢
          refine WX.round ((i + 1, (A18_9, cap18_9))) (by (repeat' (first | exact envSub.nil | refine envSub.cons ?_ ?_)) <;> first | rfl | (refine congrArg some ?_; refine congrArg (Value.int _) ?_; first | omega | (dsimp only; omega)) | (simp; done) | (refine congrArg some ?_; dsimp only; congr 1; omega) | (simp; omega)) ⟨M.sel (by first | ((repeat (first | with_reducible exact Sel.refl | with_reducible exact Sel.nil | with_reducible exact Del.here | with_reducible apply Del.there | with_reducible apply Sel.cons | with_reducible apply Sel.drop)); done) | (repeat (first | exact Sel.refl | exact Sel.nil | exact Del.here | apply Del.there | apply Sel.cons | apply Sel.drop))), by omega⟩ (by first | omega | (dsimp only; omega))
        · refine W.skip ?_
          refine WX.blockNormal ?_
          refine WX.next ?_
          refine W.region ?_
          refine WL.move rfl rfl ?_
          refine WL.add rfl rfl (by first | exact wI64 (by omega) | rfl) rfl ?_
          refine WL.assign rfl rfl ?_
          refine WL.nil ?_
          skip
          rw [if_pos (by omega)] at hes
          rw [← hes] at M ⊢
          refine WX.round ((i + 1, (B, cB))) (by (repeat' (first | exact envSub.nil | refine envSub.cons ?_ ?_)) <;> first | rfl | (refine congrArg some ?_; refine congrArg (Value.int _) ?_; first | omega | (dsimp only; omega)) | (simp; done) | (refine congrArg some ?_; dsimp only; congr 1; omega) | (simp; omega)) ⟨M.sel (by first | ((repeat (first | with_reducible exact Sel.refl | with_reducible exact Sel.nil | with_reducible exact Del.here | with_reducible apply Del.there | with_reducible apply Sel.cons | with_reducible apply Sel.drop)); done) | (repeat (first | exact Sel.refl | exact Sel.nil | exact Del.here | apply Del.there | apply Sel.cons | apply Sel.drop))), by omega⟩ (by first | omega | (dsimp only; omega))
      · refine W.exit ?_
        refine WX.thenExit ?_
        refine WX.thenExit ?_
        refine WX.blockHere ?_
        refine WX.next ?_
        refine W.seq ?_
        obtain rfl : i = l.length := by omega
        rw [List.take_length] at M ⊢
        refine W.region ?_
        refine WL.move rfl rfl ?_
        refine WL.move rfl rfl ?_
        refine WL.nilCheck rfl rfl ?_
        refine WL.fieldR (off := 2) Try.underlying53 rfl rfl Try.sizeOf27 rfl rfl rfl ?_
        refine WL.storeR Try.sizeOf27 rfl rfl rfl M (by first | ((repeat (first | with_reducible exact Has.here | with_reducible refine Has.there ?_)); done) | (repeat (first | exact Has.here | refine Has.there ?_))) (by repeat (first | exact SetAt.zero | apply SetAt.succ)) (by first | ((repeat (first | with_reducible exact Upd.here | with_reducible apply Upd.there)); done) | (repeat (first | exact Upd.here | apply Upd.there))) ?_
        intro w M
        refine WL.nil ?_
        refine WX.next ?_
        refine W.sub [(0, _), (2, _), (6, _)] (.cons rfl (.cons rfl (.cons rfl .nil))) ?_
        refine W.seq ?_
        refine W.drawM ([Asr.row g 53 [.slice As sh.length cs, .slice Ac (z2.fl.map Fl.credit).length cc, .slice B (l.eraseIdx a2).length cB, .slice Ar2 (ints z2.round).length cr2, .int .i64 (k : Int)], Asr.lst intE Ac cc (z2.fl.map Fl.credit), Asr.row g12_7 31 [.int .i64 (k : Int), .int .i64 (el l a2).cost, .int .u64 ((el l a2).id : Int)]]) (by kernel_rfl) (fun j => [3, 5, 9, 11, 12, 13, 15, 16].contains j) M (by first | ((repeat (first | with_reducible exact Sel.refl | with_reducible exact Sel.nil | with_reducible exact Del.here | with_reducible apply Del.there | with_reducible apply Sel.cons | with_reducible apply Sel.drop)); done) | (repeat (first | exact Sel.refl | exact Sel.nil | exact Del.here | apply Del.there | apply Sel.cons | apply Sel.drop))) ?_
        clear M; intro M
        apply DG.pure_ [0, 1, 2, 4, 6, 7, 8, 10, 14] 10 rfl (by kernel_rfl) (by kernel_rfl)
        · intro w
          refine WL.move rfl rfl ?_
          refine WL.nilCheck rfl rfl ?_
          refine WL.fieldR (off := 1) Try.underlying53 rfl rfl Try.sizeOf22 rfl rfl rfl ?_
          refine WL.fieldR (off := 0) Try.underlying31 rfl rfl Try.sizeOf3 rfl rfl rfl ?_
          refine WL.move rfl rfl ?_
          refine WL.nilCheck rfl rfl ?_
          refine WL.fieldR (off := 1) Try.underlying53 rfl rfl Try.sizeOf22 rfl rfl rfl ?_
          refine WL.fieldR (off := 0) Try.underlying31 rfl rfl Try.sizeOf3 rfl rfl rfl ?_
          refine WL.fieldR (off := 1) Try.underlying31 rfl rfl Try.sizeOf3 rfl rfl rfl ?_
          exact Chain.end_ rfl
        apply DG.take [3, 5, 9, 11, 12, 13, 15, 16, 17] 1 rfl (by kernel_rfl) (by kernel_rfl) (M.sel (by first | ((repeat (first | with_reducible exact Sel.refl | with_reducible exact Sel.nil | with_reducible exact Del.here | with_reducible apply Del.there | with_reducible apply Sel.cons | with_reducible apply Sel.drop)); done) | (repeat (first | exact Sel.refl | exact Sel.nil | exact Del.here | apply Del.there | apply Sel.cons | apply Sel.drop))))
        · intro w M
          refine WL.loadR Try.isAgg22 rfl M (by first | ((repeat (first | with_reducible exact Has.here | with_reducible refine Has.there ?_)); done) | (repeat (first | exact Has.here | refine Has.there ?_))) rfl rfl ?_
          refine WL.loadR Try.isAgg3 rfl M (by first | ((repeat (first | with_reducible exact Has.here | with_reducible refine Has.there ?_)); done) | (repeat (first | exact Has.here | refine Has.there ?_))) rfl rfl ?_
          refine WL.loadR Try.isAgg22 rfl M (by first | ((repeat (first | with_reducible exact Has.here | with_reducible refine Has.there ?_)); done) | (repeat (first | exact Has.here | refine Has.there ?_))) rfl rfl ?_
          refine WL.loadR Try.isAgg3 rfl M (by first | ((repeat (first | with_reducible exact Has.here | with_reducible refine Has.there ?_)); done) | (repeat (first | exact Has.here | refine Has.there ?_))) rfl rfl ?_
          refine WL.idxA Try.underlying22 Try.sizeOf3 rfl rfl (RdL.isSome (E := intE) (by first | with_reducible assumption | with_reducible exact RdL.mem (by with_reducible assumption) M | exact M.rdL (by first | ((repeat (first | with_reducible exact Has.here | with_reducible refine Has.there ?_)); done) | (repeat (first | exact Has.here | refine Has.there ?_))) | exact RdLH.at (by assumption) (M.sel (by first | ((repeat (first | with_reducible exact Sel.refl | with_reducible exact Sel.nil | with_reducible exact Del.here | with_reducible apply Del.there | with_reducible apply Sel.cons | with_reducible apply Sel.drop)); done) | (repeat (first | exact Sel.refl | exact Sel.nil | exact Del.here | apply Del.there | apply Sel.cons | apply Sel.drop)))) | exact RdL.nil _ _ _) (by omega)) (by omega) (by omega) (by first | exact rfl | exact (Int.toNat_of_nonneg (by omega)).symm) rfl ?_
          refine WL.loadE0 (E := intE) Try.isAgg3 rfl (by first | with_reducible assumption | with_reducible exact RdL.mem (by with_reducible assumption) M | exact M.rdL (by first | ((repeat (first | with_reducible exact Has.here | with_reducible refine Has.there ?_)); done) | (repeat (first | exact Has.here | refine Has.there ?_))) | exact RdLH.at (by assumption) (M.sel (by first | ((repeat (first | with_reducible exact Sel.refl | with_reducible exact Sel.nil | with_reducible exact Del.here | with_reducible apply Del.there | with_reducible apply Sel.cons | with_reducible apply Sel.drop)); done) | (repeat (first | exact Sel.refl | exact Sel.nil | exact Del.here | apply Del.there | apply Sel.cons | apply Sel.drop)))) | exact RdL.nil _ _ _) (by omega) rfl rfl ?_
          refine WL.loadR Try.isAgg3 rfl M (by first | ((repeat (first | with_reducible exact Has.here | with_reducible refine Has.there ?_)); done) | (repeat (first | exact Has.here | refine Has.there ?_))) rfl rfl ?_
          refine WL.sub' rfl rfl (show IntKind.i64.wrap (el (z2.fl.map Fl.credit) k - (el l a2).cost) = el (z2.fl.map Fl.credit) k - (el l a2).cost from wI64 (by omega)) rfl ?_
          refine WL.idxA Try.underlying22 Try.sizeOf3 rfl rfl (RdL.isSome (E := intE) (by first | with_reducible assumption | with_reducible exact RdL.mem (by with_reducible assumption) M | exact M.rdL (by first | ((repeat (first | with_reducible exact Has.here | with_reducible refine Has.there ?_)); done) | (repeat (first | exact Has.here | refine Has.there ?_))) | exact RdLH.at (by assumption) (M.sel (by first | ((repeat (first | with_reducible exact Sel.refl | with_reducible exact Sel.nil | with_reducible exact Del.here | with_reducible apply Del.there | with_reducible apply Sel.cons | with_reducible apply Sel.drop)); done) | (repeat (first | exact Sel.refl | exact Sel.nil | exact Del.here | apply Del.there | apply Sel.cons | apply Sel.drop)))) | exact RdL.nil _ _ _) (by omega)) (by omega) (by omega) (by first | exact rfl | exact (Int.toNat_of_nonneg (by omega)).symm) rfl ?_
          exact Chain.end_ rfl
        refine DG.step 18 0 rfl (by kernel_rfl) ?_
        refine WL.storeE0 (E := intE) Try.sizeOf3 rfl rfl rfl M (by first | ((repeat (first | with_reducible exact Has.here | with_reducible refine Has.there ?_)); done) | (repeat (first | exact Has.here | refine Has.there ?_))) (by omega) (by repeat (first | exact SetAt.zero | apply SetAt.succ)) (by first | ((repeat (first | with_reducible exact Upd.here | with_reducible apply Upd.there)); done) | (repeat (first | exact Upd.here | apply Upd.there))) ?_
        intro w M
        refine DG.go (G := fun j => [3, 5, 9, 11, 12, 13, 15, 16].contains j) (i := 18) (f' := 0) (done := [0, 1, 2, 4, 6, 7, 8, 10, 14, 3, 5, 9, 11, 12, 13, 15, 16, 17]) (fun h => by cases h) ?_
        refine DG.end_ (by kernel_rfl) ?_
        refine WX.next ?_
        refine W.sub [(0, _), (2, _), (6, _)] (.cons rfl (.cons rfl (.cons rfl .nil))) ?_
        refine W.seq ?_
        obtain ⟨cd2, hcd2⟩ : ∃ c, (z2.fl.map Fl.credit).set k (el (z2.fl.map Fl.credit) k - (el l a2).cost) = c := ⟨_, rfl⟩
        have hcdl : cd2.length = (z2.fl.map Fl.credit).length := by rw [← hcd2, List.length_set]
        rw [hcd2, ← hcdl] at M
        refine W.region ?_
        refine WL.move rfl rfl ?_
        refine WL.fieldR (off := 0) Try.underlying31 rfl rfl Try.sizeOf3 rfl rfl rfl ?_
        refine WL.loadR Try.isAgg3 rfl M (by first | ((repeat (first | with_reducible exact Has.here | with_reducible refine Has.there ?_)); done) | (repeat (first | exact Has.here | refine Has.there ?_))) rfl rfl ?_
        refine WL.call Try.call33 rfl (first_ok ⟨g, As, cs, sh, Ac, cc, cd2, B, cB, l.eraseIdx a2, Ar2, cr2, z2.round, (k : Int)⟩ (by dsimp only; omega) (k : Int) w0 w (Asr.row g12_7 31 [.int .i64 (k : Int), .int .i64 (el l a2).cost, .int .u64 ((el l a2).id : Int)] :: Asr.row g0_0 31 [.int .i64 0, .int .i64 0, .int .u64 0] :: L) (M.sel (by first | ((repeat (first | with_reducible exact Sel.refl | with_reducible exact Sel.nil | with_reducible exact Del.here | with_reducible apply Del.there | with_reducible apply Sel.cons | with_reducible apply Sel.drop)); done) | (repeat (first | exact Sel.refl | exact Sel.nil | exact Del.here | apply Del.there | apply Sel.cons | apply Sel.drop))))) rfl ?_
        rintro _ w ⟨r, rfl, hfo, M⟩
        unfold RfX.L RfX.row at M
        simp only [List.cons_append, List.nil_append] at M
        have hfi := hfo.is.1
        rw [hjs] at hfi
        refine WL.assign rfl rfl ?_
        refine WL.nil ?_
        refine WX.next ?_
        refine W.sub [(0, _), (2, _), (4, _), (6, _)] (.cons rfl (.cons rfl (.cons rfl (.cons rfl .nil)))) ?_
        refine W.seq ?_
        refine W.seq ?_
        refine W.region ?_
        refine WL.move rfl rfl ?_
        refine WL.lss rfl rfl rfl ?_
        refine WL.nil ?_
        refine WX.next ?_
        refine W.sub [(0, _), (2, _), (6, _), (125, _)] (.cons rfl (.cons rfl (.cons rfl (.cons rfl .nil)))) ?_
        refine W.ite rfl (fun c5 => ?_) (fun c5 => ?_)
        · refine W.seq ?_
          refine W.drawM ([Asr.row g 53 [.slice As sh.length cs, .slice Ac cd2.length cc, .slice B (l.eraseIdx a2).length cB, .slice Ar2 (ints z2.round).length cr2, .int .i64 (k : Int)], Asr.lst intE Ac cc cd2, Asr.row g12_7 31 [.int .i64 (k : Int), .int .i64 (el l a2).cost, .int .u64 ((el l a2).id : Int)]]) (by kernel_rfl) (fun j => [3, 5].contains j) M (by first | ((repeat (first | with_reducible exact Sel.refl | with_reducible exact Sel.nil | with_reducible exact Del.here | with_reducible apply Del.there | with_reducible apply Sel.cons | with_reducible apply Sel.drop)); done) | (repeat (first | exact Sel.refl | exact Sel.nil | exact Del.here | apply Del.there | apply Sel.cons | apply Sel.drop))) ?_
          clear M; intro M
          apply DG.pure_ [0, 1, 2, 4] 4 rfl (by kernel_rfl) (by kernel_rfl)
          · intro w
            refine WL.move rfl rfl ?_
            refine WL.nilCheck rfl rfl ?_
            refine WL.fieldR (off := 1) Try.underlying53 rfl rfl Try.sizeOf22 rfl rfl rfl ?_
            refine WL.fieldR (off := 0) Try.underlying31 rfl rfl Try.sizeOf3 rfl rfl rfl ?_
            exact Chain.end_ rfl
          apply DG.take [3, 5, 6] 1 rfl (by kernel_rfl) (by kernel_rfl) (M.sel (by first | ((repeat (first | with_reducible exact Sel.refl | with_reducible exact Sel.nil | with_reducible exact Del.here | with_reducible apply Del.there | with_reducible apply Sel.cons | with_reducible apply Sel.drop)); done) | (repeat (first | exact Sel.refl | exact Sel.nil | exact Del.here | apply Del.there | apply Sel.cons | apply Sel.drop))))
          · intro w M
            refine WL.loadR Try.isAgg22 rfl M (by first | ((repeat (first | with_reducible exact Has.here | with_reducible refine Has.there ?_)); done) | (repeat (first | exact Has.here | refine Has.there ?_))) rfl rfl ?_
            refine WL.loadR Try.isAgg3 rfl M (by first | ((repeat (first | with_reducible exact Has.here | with_reducible refine Has.there ?_)); done) | (repeat (first | exact Has.here | refine Has.there ?_))) rfl rfl ?_
            refine WL.idxA Try.underlying22 Try.sizeOf3 rfl rfl (RdL.isSome (E := intE) (by first | with_reducible assumption | with_reducible exact RdL.mem (by with_reducible assumption) M | exact M.rdL (by first | ((repeat (first | with_reducible exact Has.here | with_reducible refine Has.there ?_)); done) | (repeat (first | exact Has.here | refine Has.there ?_))) | exact RdLH.at (by assumption) (M.sel (by first | ((repeat (first | with_reducible exact Sel.refl | with_reducible exact Sel.nil | with_reducible exact Del.here | with_reducible apply Del.there | with_reducible apply Sel.cons | with_reducible apply Sel.drop)); done) | (repeat (first | exact Sel.refl | exact Sel.nil | exact Del.here | apply Del.there | apply Sel.cons | apply Sel.drop)))) | exact RdL.nil _ _ _) (by omega)) (by omega) (by omega) (by first | exact rfl | exact (Int.toNat_of_nonneg (by omega)).symm) rfl ?_
            exact Chain.end_ rfl
          refine DG.step 7 0 rfl (by kernel_rfl) ?_
          refine WL.storeE0 (E := intE) Try.sizeOf3 rfl rfl rfl M (by first | ((repeat (first | with_reducible exact Has.here | with_reducible refine Has.there ?_)); done) | (repeat (first | exact Has.here | refine Has.there ?_))) (by omega) (by repeat (first | exact SetAt.zero | apply SetAt.succ)) (by first | ((repeat (first | with_reducible exact Upd.here | with_reducible apply Upd.there)); done) | (repeat (first | exact Upd.here | apply Upd.there))) ?_
          intro w M
          refine DG.go (G := fun j => [3, 5].contains j) (i := 7) (f' := 0) (done := [0, 1, 2, 4, 3, 5, 6]) (fun h => by cases h) ?_
          refine DG.end_ (by kernel_rfl) ?_
          refine WX.next ?_
          refine W.sub [(0, _), (2, _), (6, _)] (.cons rfl (.cons rfl (.cons rfl .nil))) ?_
          refine W.seq ?_
          refine W.region ?_
          refine WL.move rfl rfl ?_
          refine WL.move rfl rfl ?_
          refine WL.call Try.call34 rfl (behind_ok ⟨g, As, cs, sh, Ac, cc, cd2.set k 0, B, cB, l.eraseIdx a2, Ar2, cr2, z2.round, (k : Int)⟩ hrl w0 _ (Asr.row g12_7 31 [.int .i64 (k : Int), .int .i64 (el l a2).cost, .int .u64 ((el l a2).id : Int)] :: Asr.row g0_0 31 [.int .i64 0, .int .i64 0, .int .u64 0] :: L) (by unfold RfX.L RfX.row; dsimp only; rw [List.length_set]; exact M.sel (by first | ((repeat (first | with_reducible exact Sel.refl | with_reducible exact Sel.nil | with_reducible exact Del.here | with_reducible apply Del.there | with_reducible apply Sel.cons | with_reducible apply Sel.drop)); done) | (repeat (first | exact Sel.refl | exact Sel.nil | exact Del.here | apply Del.there | apply Sel.cons | apply Sel.drop))))) rfl ?_
          rintro _ w ⟨A24, c24, rfl, M⟩
          unfold RfX.L RfX.row at M
          simp only [List.cons_append, List.nil_append] at M
          rw [List.length_set] at M
          refine WL.nilCheck rfl rfl ?_
          refine WL.fieldR (off := 3) Try.underlying53 rfl rfl Try.sizeOf22 rfl rfl rfl ?_
          refine WL.storeR Try.sizeOf22 rfl rfl rfl M (by first | ((repeat (first | with_reducible exact Has.here | with_reducible refine Has.there ?_)); done) | (repeat (first | exact Has.here | refine Has.there ?_))) (by repeat (first | exact SetAt.zero | apply SetAt.succ)) (by first | ((repeat (first | with_reducible exact Upd.here | with_reducible apply Upd.there)); done) | (repeat (first | exact Upd.here | apply Upd.there))) ?_
          intro w M
          refine WL.nil ?_
          refine WX.next ?_
          refine W.sub [(0, _), (2, _), (6, _)] (.cons rfl (.cons rfl (.cons rfl .nil))) ?_
          refine W.region ?_
          refine WL.move rfl rfl ?_
          refine WL.nilCheck rfl rfl ?_
          refine WL.fieldR (off := 4) Try.underlying53 rfl rfl Try.sizeOf3 rfl rfl rfl ?_
          refine WL.storeR Try.sizeOf3 rfl rfl rfl M (by first | ((repeat (first | with_reducible exact Has.here | with_reducible refine Has.there ?_)); done) | (repeat (first | exact Has.here | refine Has.there ?_))) (by repeat (first | exact SetAt.zero | apply SetAt.succ)) (by first | ((repeat (first | with_reducible exact Upd.here | with_reducible apply Upd.there)); done) | (repeat (first | exact Upd.here | apply Upd.there))) ?_
          intro w M
          refine WL.nil ?_
          refine WX.next ?_
          refine W.sub [(2, _), (6, _)] (.cons rfl (.cons rfl .nil)) ?_
          refine W.seq ?_
          refine W.region ?_
          refine WL.loadW Try.isAgg31 Try.sizeOf31 rfl M (by first | ((repeat (first | with_reducible exact Has.here | with_reducible refine Has.there ?_)); done) | (repeat (first | exact Has.here | refine Has.there ?_))) rfl rfl ?_
          refine WL.storeWA Try.sizeOf31 rfl rfl (by repeat (first | exact oneNil | refine oneCons rfl ?_)) rfl rfl M (by first | ((repeat (first | with_reducible exact Upd.here | with_reducible apply Upd.there)); done) | (repeat (first | exact Upd.here | apply Upd.there))) ?_
          intro w M
          refine WL.assign rfl rfl ?_
          refine WL.nil ?_
          refine WX.next ?_
          refine W.sub [(2, _), (3, _)] (.cons rfl (.cons rfl .nil)) ?_
          refine W.ret ?_
          refine WX.retC2 (cs := [_, _, _]) rfl rfl rfl Try.isAgg31 (by exact Try.sizeOf31) (M.cellsH (by first | ((repeat (first | with_reducible exact Has.here | with_reducible refine Has.there ?_)); done) | (repeat (first | exact Has.here | refine Has.there ?_)))) ?_
          have ht : js = [] := hfi.1 c5
          refine ⟨⟨g, As, cs, sh, Ac, cc, cd2.set k 0, B, cB, l.eraseIdx a2, A24, c24, z2.round.tail, -1⟩, el l a2, by rw [decide_eq_true hn0]; unfold JX.v; rw [hf2], rfl, ?_, fun h => absurd h hn0, fun _ => ⟨hJ.symm, ?_⟩⟩
          · unfold RfX.L RfX.row
            dsimp only
            rw [List.length_set]
            exact M.sel (by first | ((repeat (first | with_reducible exact Sel.refl | with_reducible exact Sel.nil | with_reducible exact Del.here | with_reducible apply Del.there | with_reducible apply Sel.cons | with_reducible apply Sel.drop)); done) | (repeat (first | exact Sel.refl | exact Sel.nil | exact Del.here | apply Del.there | apply Sel.cons | apply Sel.drop)))
          · rw [hT]
            refine ⟨?_, ?_, ?_, ?_, hL⟩
            · exact hsz2.trans (map_setSame Fl.share hkf (by rw [hfk])).symm
            · dsimp only
              rw [map_setS, ← hcd2, List.set_set, if_pos ht]
            · dsimp only
              rw [if_pos ht]
            · dsimp only
              rw [if_pos ht]
              rfl
        · refine W.skip ?_
          refine WX.next ?_
          refine W.seq ?_
          refine W.region ?_
          refine WL.loadW Try.isAgg31 Try.sizeOf31 rfl M (by first | ((repeat (first | with_reducible exact Has.here | with_reducible refine Has.there ?_)); done) | (repeat (first | exact Has.here | refine Has.there ?_))) rfl rfl ?_
          refine WL.storeWA Try.sizeOf31 rfl rfl (by repeat (first | exact oneNil | refine oneCons rfl ?_)) rfl rfl M (by first | ((repeat (first | with_reducible exact Upd.here | with_reducible apply Upd.there)); done) | (repeat (first | exact Upd.here | apply Upd.there))) ?_
          intro w M
          refine WL.assign rfl rfl ?_
          refine WL.nil ?_
          refine WX.next ?_
          refine W.sub [(2, _), (3, _)] (.cons rfl (.cons rfl .nil)) ?_
          refine W.ret ?_
          refine WX.retC2 (cs := [_, _, _]) rfl rfl rfl Try.isAgg31 (by exact Try.sizeOf31) (M.cellsH (by first | ((repeat (first | with_reducible exact Has.here | with_reducible refine Has.there ?_)); done) | (repeat (first | exact Has.here | refine Has.there ?_)))) ?_
          have ht : js ≠ [] := fun h => c5 (hfi.2 h)
          refine ⟨⟨g, As, cs, sh, Ac, cc, cd2, B, cB, l.eraseIdx a2, Ar2, cr2, z2.round, (k : Int)⟩, el l a2, by rw [decide_eq_true hn0]; unfold JX.v; rw [hf2], rfl, M.sel (by first | ((repeat (first | with_reducible exact Sel.refl | with_reducible exact Sel.nil | with_reducible exact Del.here | with_reducible apply Del.there | with_reducible apply Sel.cons | with_reducible apply Sel.drop)); done) | (repeat (first | exact Sel.refl | exact Sel.nil | exact Del.here | apply Del.there | apply Sel.cons | apply Sel.drop))), fun h => absurd h hn0, fun _ => ⟨hJ.symm, ?_⟩⟩
          · rw [hT]
            refine ⟨?_, ?_, ?_, ?_, hL⟩
            · exact hsz2.trans (map_setSame Fl.share hkf (by rw [hfk])).symm
            · dsimp only
              rw [map_setS, ← hcd2, if_neg ht, hcr]
            · dsimp only
              rw [if_neg ht]
            · dsimp only
              rw [if_neg ht, if_pos rfl]
              show (k : Int) = (((if js = [] then z2.round.tail else z2.round).headD 0 : Nat) : Int)
              rw [if_neg ht]
              exact congrArg _ hk.symm
end Go.Proofs.Ytdhmopmfnnlhcaa
