/-
  Walk: one flow alone; all alike (seawalllaw21.DrrOne).
-/
import Derived.Test.YtdhmopmfnnlhcaaKnown21
import Derived.Test.YtdhmopmfnnlhcaaDrrLaw2
namespace Go.Proofs.Ytdhmopmfnnlhcaa
open Go Go.RowKit

theorem good11 : ¬ badL [1, 1] := by unfold badL; decide
/-- What is pushed. -/
def oneJ (j : JX) : JX := { jobX j 1 with flow := 1 }
/-- Flow 1 alone has jobs. -/
structure OneS (s : Sd) (T : List JX) : Prop where
  ok : Ok s
  len : s.fl.length = 2
  no : (el s.fl 0).jobs = []
  has : (el s.fl 1).jobs = T
  n : nJ s.fl = T.length
theorem oneS_new : OneS (newS [1, 1]) [] := ⟨(newS_ok good11).1, rfl, rfl, rfl, (newS_ok good11).2⟩
theorem OneS.push {s : Sd} {T : List JX} (h : OneS s T) (hT : T.length ≤ 1000) (j : JX) : OneS (pushS s (oneJ j)) (T ++ [oneJ j]) := by
  have hj := jobX_ok j (n := 1) (by omega)
  obtain ⟨h1, h2, h3, h4, h5⟩ := push_says (s := s) (j := oneJ j) (k := 1) rfl (by rw [h.len]; omega) (by show 1 ≤ (jobX j 1).cost ∧ (jobX j 1).cost ≤ 100000; omega) (by rw [h.n]; omega)
  refine ⟨h.ok.push _, by rw [h3, h.len], ?_, ?_, ?_⟩
  · rw [h2, if_neg (by omega)]
    exact h.no
  · rw [h2, if_pos rfl]
    dsimp only
    rw [h.has]
  · rw [h5, h.n]
    simp
theorem OneS.pop {s : Sd} {j : JX} {T : List JX} (h : OneS s (j :: T)) : nJ s.fl ≠ 0 ∧ popJ s = j ∧ OneS (popS s) T ∧ j.flow = 1 := by
  have hn : nJ s.fl ≠ 0 := by rw [h.n]; simp
  obtain ⟨k, js, hp⟩ := pop_says h.ok hn
  have hk : k = 1 := by
    have h1 := hp.lt
    rw [h.len] at h1
    have h2 := hp.was
    match k, h1, h2 with
    | 0, _, h2 => rw [h.no] at h2; cases h2
    | 1, _, _ => rfl
  subst hk
  have hw := hp.was
  rw [h.has] at hw
  injection hw with e1 e2
  have ht : Ok (popS s) ∧ nJ (popS s).fl + 1 = nJ s.fl := by
    obtain ⟨a, b, c, d⟩ := h.ok.pop1 hn
    have e := pop1_nJ h.ok hn
    have t := a.take b c d
    exact ⟨t.1, by have := t.2; unfold popS; omega⟩
  have hfl := hp.flow
  rw [← e1] at hfl
  refine ⟨hn, e1.symm, ⟨ht.1, by rw [hp.len, h.len], ?_, by rw [hp.now, e2], ?_⟩, by omega⟩
  · rw [hp.rest 0 (by omega)]
    exact h.no
  · have := h.n
    have := ht.2
    simp only [List.length_cons] at *
    omega
/-- All alike: the states, and that jobs come in turn. -/
def oP (k : Nat) : Nat → Sd
  | 0 => newS (List.replicate k 10)
  | i + 1 => pushS (oP k i) ⟨(i : Int) % (k : Int), 10, i⟩
def chk : Nat → Nat → Sd → Bool
  | 0, _, _ => true
  | n + 1, i, s => decide (nJ s.fl ≠ 0) && decide ((popJ s).id = i) && chk n (i + 1) (popS s)
theorem one_turns : ∀ k, k < 8 → chk (5 * (k + 1)) 0 (oP (k + 1) (5 * (k + 1))) = true := by decide +kernel
theorem good10 {k : Nat} (h : 1 ≤ k ∧ k ≤ 8) : ¬ badL (List.replicate k 10) := by
  rintro (hb | hb)
  · obtain ⟨z, hz, hw⟩ := List.any_eq_true.1 hb
    have := List.eq_of_mem_replicate hz
    subst this
    revert hw
    decide
  · rw [List.length_replicate] at hb
    omega
theorem chk_next {n i : Nat} {s : Sd} (h : chk (n + 1) i s = true) : nJ s.fl ≠ 0 ∧ (popJ s).id = i ∧ chk n (i + 1) (popS s) = true := by
  unfold chk at h
  rw [Bool.and_eq_true, Bool.and_eq_true, decide_eq_true_eq, decide_eq_true_eq] at h
  exact ⟨h.1.1, h.1.2, h.2⟩

set_option maxRecDepth 10000 in
set_option maxHeartbeats 4000000 in
theorem DrrOne_ok (A0 : Option Addr) (k0 : Nat) (l : List JX) (flows : Int) (w0 : World) (h0 : RdL w0 jobE A0 k0 l) :
    Fn Try.prog 5 [.slice A0 l.length k0, .int .i64 flows] w0 fun v w' => v = .bool true ∧ Mem w0 w' [] := by
  have M := Mem.refl w0
  obtain ⟨w, hw⟩ : ∃ w, w = w0 := ⟨w0, rfl⟩
  refine Fn.enter Try.func5 rfl Try.ntmps5 rfl ?_
  refine W.sub [(0, _), (1, _)] (.cons rfl (.cons rfl .nil)) ?_
  refine W.seq ?_
  refine W.region ?_
  refine WL.assign rfl rfl ?_
  refine WL.nil ?_
  refine WX.next ?_
  refine W.sub [(0, _), (1, _)] (.cons rfl (.cons rfl .nil)) ?_
  refine W.seq ?_
  refine W.region ?_
  refine WL.buildL (E := intE) (l := [1, 1]) Try.elem3 M rfl rfl rfl rfl rfl rfl ?_
  intro g1_0 w M
  refine WL.call Try.call17 rfl (New_ok (l := [1, 1]) (by first | with_reducible assumption | with_reducible exact RdL.mem (by with_reducible assumption) M | exact M.rdL (by first | ((repeat (first | with_reducible exact Has.here | with_reducible refine Has.there ?_)); done) | (repeat (first | exact Has.here | refine Has.there ?_))) | exact RdLH.at (by assumption) (M.sel (by first | ((repeat (first | with_reducible exact Sel.refl | with_reducible exact Sel.nil | with_reducible exact Del.here | with_reducible apply Del.there | with_reducible apply Sel.cons | with_reducible apply Sel.drop)); done) | (repeat (first | exact Sel.refl | exact Sel.nil | exact Del.here | apply Del.there | apply Sel.cons | apply Sel.drop)))) | exact RdL.nil _ _ _) (by simp)) rfl ?_
  rintro _ w h
  obtain ⟨x, rfl, hxs, hxo, m⟩ : ∃ x : SdX, _ = Value.tuple #[.pointer (some ⟨x.g, 0, none⟩), .int .i64 0] ∧ x.s = newS [1, 1] ∧ x.ok ∧ Mem _ w x.L := by
    rcases h with ⟨hb, _⟩ | ⟨_, h⟩
    · exact absurd hb good11
    · exact h
  replace M := M.callN m; clear m
  refine WL.move rfl rfl ?_
  refine WL.extractL rfl rfl rfl ?_
  refine WL.extractL rfl rfl rfl ?_
  refine WL.assign rfl rfl ?_
  refine WL.assign rfl rfl ?_
  refine WL.nil ?_
  refine WX.next ?_
  refine W.sub [(0, _), (1, _), (5, _), (6, _)] (.cons rfl (.cons rfl (.cons rfl (.cons rfl .nil)))) ?_
  refine W.seq ?_
  refine W.seq ?_
  refine W.region ?_
  refine WL.move rfl rfl ?_
  refine WL.neI rfl rfl rfl ?_
  refine WL.moveIf rfl rfl (fun c0 => ?_) (fun c0 => ?_)
  · exact absurd rfl c0
  · refine WL.on rfl rfl ?_
    refine WL.move rfl rfl ?_
    refine WL.on rfl rfl ?_
    refine WL.eqNilF Try.underlying24 rfl rfl rfl ?_
    refine WL.pickF rfl rfl rfl ?_
    refine WL.nil ?_
    refine WX.next ?_
    refine W.sub [(0, _), (1, _), (5, _), (32, _)] (.cons rfl (.cons rfl (.cons rfl (.cons rfl .nil)))) ?_
    refine W.condF rfl ?_
    refine W.skip ?_
    refine WX.next ?_
    refine W.seq ?_
    refine W.region ?_
    refine WL.assign rfl rfl ?_
    refine WL.nil ?_
    refine WX.next ?_
    refine W.sub [(0, _), (1, _), (5, _), (7, _)] (.cons rfl (.cons rfl (.cons rfl (.cons rfl .nil)))) ?_
    refine W.seq ?_
    refine W.seq ?_
    refine W.region ?_
    refine WL.assign rfl rfl ?_
    refine WL.nil ?_
    refine WX.next ?_
    refine W.sub [(0, _), (1, _), (5, _), (7, _), (8, _)] (.cons rfl (.cons rfl (.cons rfl (.cons rfl (.cons rfl .nil))))) ?_
    refine W.block ?_
    refine W.loop (ι := Nat × SdX) (fun z => [(0, .slice A0 l.length k0), (1, .int .i64 flows), (5, .pointer (some ⟨z.2.g, 0, none⟩)), (7, .int .i64 (z.1 : Int)), (8, .int .i64 (z.1 : Int))]) (fun zz w => Mem w0 w ((fun z => z.2.L ++ []) zz) ∧ (fun z => z.1 ≤ 100 ∧ z.1 ≤ l.length ∧ z.2.ok ∧ OneS z.2.s ((l.take z.1).map oneJ)) zz) (fun z => 100 - z.1) ((0, x)) (by (repeat' (first | exact envSub.nil | refine envSub.cons ?_ ?_)) <;> first | rfl | (refine congrArg some ?_; refine congrArg (Value.int _) ?_; first | omega | (dsimp only; omega)) | (simp; done) | (refine congrArg some ?_; dsimp only; congr 1; omega) | (simp; omega)) ⟨M.sel (by first | ((repeat (first | with_reducible exact Sel.refl | with_reducible exact Sel.nil | with_reducible exact Del.here | with_reducible apply Del.there | with_reducible apply Sel.cons | with_reducible apply Sel.drop)); done) | (repeat (first | exact Sel.refl | exact Sel.nil | exact Del.here | apply Del.there | apply Sel.cons | apply Sel.drop))), ⟨by simp, by simp, hxo, by rw [hxs]; exact oneS_new⟩⟩ ?_
    clear M; rintro (⟨i, x⟩) w ⟨M, ⟨hi, hil, hxo, hone⟩⟩; dsimp only at M hi hil hxo hone ⊢
    refine W.sub [(0, _), (1, _), (5, _), (7, _), (8, _)] (.cons rfl (.cons rfl (.cons rfl (.cons rfl (.cons rfl .nil))))) ?_
    refine W.seq ?_
    refine W.seq ?_
    refine W.region ?_
    refine WL.move rfl rfl ?_
    refine WL.move rfl rfl ?_
    refine WL.len Try.underlying27 rfl rfl ?_
    refine WL.lss rfl rfl rfl ?_
    refine WL.moveIf rfl rfl (fun c2 => ?_) (fun c2 => ?_)
    · refine WL.on rfl rfl ?_
      refine WL.move rfl rfl ?_
      refine WL.on rfl rfl ?_
      refine WL.lss rfl rfl rfl ?_
      refine WL.pickT rfl rfl rfl ?_
      refine WL.nil ?_
      refine WX.next ?_
      refine W.sub [(0, _), (1, _), (5, _), (7, _), (8, _), (40, _)] (.cons rfl (.cons rfl (.cons rfl (.cons rfl (.cons rfl (.cons rfl .nil)))))) ?_
      refine W.ite rfl (fun c3 => ?_) (fun c3 => ?_)
      · refine W.skip ?_
        refine WX.next ?_
        refine W.seq ?_
        refine W.block ?_
        refine W.seq ?_
        refine W.region ?_
        refine WL.move rfl rfl ?_
        refine WL.move rfl rfl ?_
        refine WL.idxA Try.underlying27 Try.sizeOf31 rfl rfl (RdL.isSome (E := jobE) (by first | with_reducible assumption | with_reducible exact RdL.mem (by with_reducible assumption) M | exact M.rdL (by first | ((repeat (first | with_reducible exact Has.here | with_reducible refine Has.there ?_)); done) | (repeat (first | exact Has.here | refine Has.there ?_))) | exact RdLH.at (by assumption) (M.sel (by first | ((repeat (first | with_reducible exact Sel.refl | with_reducible exact Sel.nil | with_reducible exact Del.here | with_reducible apply Del.there | with_reducible apply Sel.cons | with_reducible apply Sel.drop)); done) | (repeat (first | exact Sel.refl | exact Sel.nil | exact Del.here | apply Del.there | apply Sel.cons | apply Sel.drop)))) | exact RdL.nil _ _ _) (by omega)) (by omega) (by omega) (by first | exact rfl | exact (Int.toNat_of_nonneg (by omega)).symm) rfl ?_
        refine WL.loadL (E := jobE) (cs := [_, _, _]) Try.isAgg31 Try.sizeOf31 rfl (by first | with_reducible assumption | with_reducible exact RdL.mem (by with_reducible assumption) M | exact M.rdL (by first | ((repeat (first | with_reducible exact Has.here | with_reducible refine Has.there ?_)); done) | (repeat (first | exact Has.here | refine Has.there ?_))) | exact RdLH.at (by assumption) (M.sel (by first | ((repeat (first | with_reducible exact Sel.refl | with_reducible exact Sel.nil | with_reducible exact Del.here | with_reducible apply Del.there | with_reducible apply Sel.cons | with_reducible apply Sel.drop)); done) | (repeat (first | exact Sel.refl | exact Sel.nil | exact Del.here | apply Del.there | apply Sel.cons | apply Sel.drop)))) | exact RdL.nil _ _ _) rfl (by omega) rfl rfl ?_
        refine WL.call Try.call11 rfl (job_ok (el l i) 1 (by omega) _) rfl ?_
        rintro _ w ⟨rfl, m⟩
        replace M := M.call0 m; clear m
        unfold JX.v
        refine WL.alloc Try.zeroValue31 M rfl ?_
        intro g8_5 w M
        try simp only [Value.cells] at M
        try simp only [List.toList_toArray] at M
        refine WL.storeWA Try.sizeOf31 rfl rfl (by repeat (first | exact oneNil | refine oneCons rfl ?_)) rfl rfl M (by first | ((repeat (first | with_reducible exact Upd.here | with_reducible apply Upd.there)); done) | (repeat (first | exact Upd.here | apply Upd.there))) ?_
        intro w M
        refine WL.nil ?_
        refine WX.next ?_
        refine W.sub [(0, _), (1, _), (5, _), (7, _), (8, _), (9, _)] (.cons rfl (.cons rfl (.cons rfl (.cons rfl (.cons rfl (.cons rfl .nil)))))) ?_
        refine W.seq ?_
        refine W.region ?_
        refine WL.fieldR (off := 0) Try.underlying31 rfl rfl Try.sizeOf3 rfl rfl rfl ?_
        refine WL.storeR Try.sizeOf3 rfl rfl rfl M (by first | ((repeat (first | with_reducible exact Has.here | with_reducible refine Has.there ?_)); done) | (repeat (first | exact Has.here | refine Has.there ?_))) (by repeat (first | exact SetAt.zero | apply SetAt.succ)) (by first | ((repeat (first | with_reducible exact Upd.here | with_reducible apply Upd.there)); done) | (repeat (first | exact Upd.here | apply Upd.there))) ?_
        intro w M
        refine WL.nil ?_
        refine WX.next ?_
        refine W.sub [(0, _), (1, _), (5, _), (7, _), (8, _), (9, _)] (.cons rfl (.cons rfl (.cons rfl (.cons rfl (.cons rfl (.cons rfl .nil)))))) ?_
        refine W.seq ?_
        refine W.region ?_
        refine WL.move rfl rfl ?_
        refine WL.loadW Try.isAgg31 Try.sizeOf31 rfl M (by first | ((repeat (first | with_reducible exact Has.here | with_reducible refine Has.there ?_)); done) | (repeat (first | exact Has.here | refine Has.there ?_))) rfl rfl ?_
        refine WL.call Try.call12 rfl (Push1_ok x hxo (oneJ (el l i)) w0 w [] (M.sel (by first | ((repeat (first | with_reducible exact Sel.refl | with_reducible exact Sel.nil | with_reducible exact Del.here | with_reducible apply Del.there | with_reducible apply Sel.cons | with_reducible apply Sel.drop)); done) | (repeat (first | exact Sel.refl | exact Sel.nil | exact Del.here | apply Del.there | apply Sel.cons | apply Sel.drop))))) rfl ?_
        rintro _ w ⟨x1, rfl, hg1, hs1, ho1, M⟩
        rw [hg1]
        have hone1 := hone.push (by simp; omega) (el l i)
        rw [← hs1, show (l.take i).map oneJ ++ [oneJ (el l i)] = (l.take (i + 1)).map oneJ by rw [List.take_add_one, el_get (by omega)]; simp] at hone1
        refine WL.nil ?_
        refine WX.next ?_
        refine W.sub [(0, _), (1, _), (5, _), (7, _), (8, _)] (.cons rfl (.cons rfl (.cons rfl (.cons rfl (.cons rfl .nil))))) ?_
        refine W.region ?_
        refine WL.move rfl rfl ?_
        refine WL.add rfl rfl (by first | exact wI64 (by omega) | rfl) rfl ?_
        refine WL.assign rfl rfl ?_
        refine WL.nil ?_
        refine WX.blockNormal ?_
        refine WX.next ?_
        refine W.sub [(0, _), (1, _), (5, _), (7, _), (8, _)] (.cons rfl (.cons rfl (.cons rfl (.cons rfl (.cons rfl .nil))))) ?_
        refine W.region ?_
        refine WL.move rfl rfl ?_
        refine WL.add rfl rfl (by first | exact wI64 (by omega) | rfl) rfl ?_
        refine WL.assign rfl rfl ?_
        refine WL.nil ?_
        refine WX.round ((i + 1, x1)) (by (repeat' (first | exact envSub.nil | refine envSub.cons ?_ ?_)) <;> first | rfl | (refine congrArg some ?_; refine congrArg (Value.int _) ?_; first | omega | (dsimp only; omega)) | (simp; done) | (refine congrArg some ?_; dsimp only; congr 1; omega) | (simp; omega)) ⟨M.sel (by first | ((repeat (first | with_reducible exact Sel.refl | with_reducible exact Sel.nil | with_reducible exact Del.here | with_reducible apply Del.there | with_reducible apply Sel.cons | with_reducible apply Sel.drop)); done) | (repeat (first | exact Sel.refl | exact Sel.nil | exact Del.here | apply Del.there | apply Sel.cons | apply Sel.drop))), ⟨by dsimp only; omega, by dsimp only; omega, ho1, hone1⟩⟩ (by first | omega | (dsimp only; omega))
      · refine W.exit ?_
        refine WX.thenExit ?_
        refine WX.thenExit ?_
        refine WX.blockHere ?_
        refine WX.next ?_
        refine W.seq ?_
        refine W.seq ?_
        refine W.region ?_
        refine WL.assign rfl rfl ?_
        refine WL.nil ?_
        refine WX.next ?_
        refine W.sub [(0, _), (1, _), (5, _), (7, _), (10, _)] (.cons rfl (.cons rfl (.cons rfl (.cons rfl (.cons rfl .nil))))) ?_
        refine W.block ?_
        refine W.loop (ι := Nat × SdX) (fun z => [(0, .slice A0 l.length k0), (1, .int .i64 flows), (5, .pointer (some ⟨z.2.g, 0, none⟩)), (7, .int .i64 (i : Int)), (10, .int .i64 (z.1 : Int))]) (fun zz w => Mem w0 w ((fun z => z.2.L ++ []) zz) ∧ (fun z => z.1 ≤ i ∧ z.2.ok ∧ OneS z.2.s (((l.take i).map oneJ).drop z.1)) zz) (fun z => i - z.1) ((0, x)) (by (repeat' (first | exact envSub.nil | refine envSub.cons ?_ ?_)) <;> first | rfl | (refine congrArg some ?_; refine congrArg (Value.int _) ?_; first | omega | (dsimp only; omega)) | (simp; done) | (refine congrArg some ?_; dsimp only; congr 1; omega) | (simp; omega)) ⟨M.sel (by first | ((repeat (first | with_reducible exact Sel.refl | with_reducible exact Sel.nil | with_reducible exact Del.here | with_reducible apply Del.there | with_reducible apply Sel.cons | with_reducible apply Sel.drop)); done) | (repeat (first | exact Sel.refl | exact Sel.nil | exact Del.here | apply Del.there | apply Sel.cons | apply Sel.drop))), ⟨by simp, hxo, hone⟩⟩ ?_
        clear M; rintro (⟨j, x2⟩) w ⟨M, ⟨hj, hxo2, hone2⟩⟩; dsimp only at M hj hxo2 hone2 ⊢
        refine W.sub [(0, _), (1, _), (5, _), (7, _), (10, _)] (.cons rfl (.cons rfl (.cons rfl (.cons rfl (.cons rfl .nil))))) ?_
        refine W.seq ?_
        refine W.seq ?_
        refine W.region ?_
        refine WL.move rfl rfl ?_
        refine WL.move rfl rfl ?_
        refine WL.lss rfl rfl rfl ?_
        refine WL.nil ?_
        refine WX.next ?_
        refine W.sub [(0, _), (1, _), (5, _), (7, _), (10, _), (56, _)] (.cons rfl (.cons rfl (.cons rfl (.cons rfl (.cons rfl (.cons rfl .nil)))))) ?_
        refine W.ite rfl (fun c4 => ?_) (fun c4 => ?_)
        · have hjl : j < ((l.take i).map oneJ).length := by simp; omega
          rw [List.drop_eq_getElem_cons hjl] at hone2
          have he : ((l.take i).map oneJ)[j] = oneJ (el l j) := by
            have hjl2 : j < l.length := by omega
            simp [el, hjl2]
          rw [he] at hone2
          obtain ⟨hn2, hpj, hone3, hfl⟩ := hone2.pop
          refine W.skip ?_
          refine WX.next ?_
          refine W.seq ?_
          refine W.block ?_
          refine W.seq ?_
          refine W.region ?_
          refine WL.move rfl rfl ?_
          refine WL.call Try.call13 rfl (Pop1_ok x2 hxo2 hn2 w0 w [] M) rfl ?_
          rintro _ w ⟨x3, rfl, hg3, hs3, ho3, M⟩
          rw [hg3, hpj]
          rw [← hs3] at hone3
          unfold JX.v
          refine WL.move rfl rfl ?_
          refine WL.extractL rfl rfl rfl ?_
          refine WL.extractL rfl rfl rfl ?_
          refine WL.alloc Try.zeroValue31 M rfl ?_
          intro g15_5 w M
          try simp only [Value.cells] at M
          try simp only [List.toList_toArray] at M
          refine WL.storeWA Try.sizeOf31 rfl rfl (by repeat (first | exact oneNil | refine oneCons rfl ?_)) rfl rfl M (by first | ((repeat (first | with_reducible exact Upd.here | with_reducible apply Upd.there)); done) | (repeat (first | exact Upd.here | apply Upd.there))) ?_
          intro w M
          refine WL.assign rfl rfl ?_
          refine WL.nil ?_
          refine WX.next ?_
          refine W.sub [(0, _), (1, _), (5, _), (7, _), (10, _), (11, _), (12, _)] (.cons rfl (.cons rfl (.cons rfl (.cons rfl (.cons rfl (.cons rfl (.cons rfl .nil))))))) ?_
          refine W.seq ?_
          refine W.drawM ([Asr.row g15_5 31 [.int .i64 (oneJ (el l j)).flow, .int .i64 (oneJ (el l j)).cost, .int .u64 ((oneJ (el l j)).id : Int)]]) (by kernel_rfl) (fun j => [4, 9].contains j) M (by first | ((repeat (first | with_reducible exact Sel.refl | with_reducible exact Sel.nil | with_reducible exact Del.here | with_reducible apply Del.there | with_reducible apply Sel.cons | with_reducible apply Sel.drop)); done) | (repeat (first | exact Sel.refl | exact Sel.nil | exact Del.here | apply Del.there | apply Sel.cons | apply Sel.drop))) ?_
          clear M; intro M
          apply DG.pure_ [0, 1] 15 rfl (by kernel_rfl) (by kernel_rfl)
          · intro w
            refine WL.move rfl rfl ?_
            refine WL.not rfl rfl ?_
            exact Chain.end_ rfl
          refine DG.know (t := 65) rfl (fun c5 => ?_) (fun c5 => ?_)
          · (try simp only [Bool.not_eq_true'] at c5); (try simp only [Bool.not_eq_false'] at c5); (try simp only [decide_eq_true_eq] at c5); (try simp only [decide_eq_false_iff_not] at c5)
            exact absurd c5 (by decide)
          · (try simp only [Bool.not_eq_true'] at c5); (try simp only [Bool.not_eq_false'] at c5); (try simp only [decide_eq_true_eq] at c5); (try simp only [decide_eq_false_iff_not] at c5)
            apply DG.pure_ [2, 3, 5, 6, 7, 8] 9 rfl (by kernel_rfl) (by kernel_rfl)
            · intro w
              refine WL.move rfl rfl ?_
              refine WL.on rfl rfl ?_
              refine WL.fieldR (off := 2) Try.underlying31 rfl rfl Try.sizeOf29 rfl rfl rfl ?_
              refine WL.on rfl rfl ?_
              refine WL.move rfl rfl ?_
              refine WL.on rfl rfl ?_
              refine WL.move rfl rfl ?_
              refine WL.on rfl rfl ?_
              refine WL.idxA Try.underlying27 Try.sizeOf31 rfl rfl (RdL.isSome (E := jobE) (by first | with_reducible assumption | with_reducible exact RdL.mem (by with_reducible assumption) M | exact M.rdL (by first | ((repeat (first | with_reducible exact Has.here | with_reducible refine Has.there ?_)); done) | (repeat (first | exact Has.here | refine Has.there ?_))) | exact RdLH.at (by assumption) (M.sel (by first | ((repeat (first | with_reducible exact Sel.refl | with_reducible exact Sel.nil | with_reducible exact Del.here | with_reducible apply Del.there | with_reducible apply Sel.cons | with_reducible apply Sel.drop)); done) | (repeat (first | exact Sel.refl | exact Sel.nil | exact Del.here | apply Del.there | apply Sel.cons | apply Sel.drop)))) | exact RdL.nil _ _ _) (by omega)) (by omega) (by omega) (by first | exact rfl | exact (Int.toNat_of_nonneg (by omega)).symm) rfl ?_
              refine WL.on rfl rfl ?_
              refine WL.fieldA (off := 2) Try.underlying31 rfl rfl Try.sizeOf29 rfl rfl rfl ?_
              exact Chain.end_ rfl
            apply DG.take [4, 9, 10, 11] 5 rfl (by kernel_rfl) (by kernel_rfl) (M.sel (by first | ((repeat (first | with_reducible exact Sel.refl | with_reducible exact Sel.nil | with_reducible exact Del.here | with_reducible apply Del.there | with_reducible apply Sel.cons | with_reducible apply Sel.drop)); done) | (repeat (first | exact Sel.refl | exact Sel.nil | exact Del.here | apply Del.there | apply Sel.cons | apply Sel.drop))))
            · intro w M
              refine WL.on rfl rfl ?_
              refine WL.loadR Try.isAgg29 rfl M (by first | ((repeat (first | with_reducible exact Has.here | with_reducible refine Has.there ?_)); done) | (repeat (first | exact Has.here | refine Has.there ?_))) rfl rfl ?_
              refine WL.on rfl rfl ?_
              refine WL.loadE (E := jobE) Try.isAgg29 rfl (by first | with_reducible assumption | with_reducible exact RdL.mem (by with_reducible assumption) M | exact M.rdL (by first | ((repeat (first | with_reducible exact Has.here | with_reducible refine Has.there ?_)); done) | (repeat (first | exact Has.here | refine Has.there ?_))) | exact RdLH.at (by assumption) (M.sel (by first | ((repeat (first | with_reducible exact Sel.refl | with_reducible exact Sel.nil | with_reducible exact Del.here | with_reducible apply Del.there | with_reducible apply Sel.cons | with_reducible apply Sel.drop)); done) | (repeat (first | exact Sel.refl | exact Sel.nil | exact Del.here | apply Del.there | apply Sel.cons | apply Sel.drop)))) | exact RdL.nil _ _ _) (by omega) rfl rfl ?_
              refine WL.on rfl rfl ?_
              refine WL.neI rfl rfl rfl ?_
              refine WL.pickF rfl rfl rfl ?_
              exact Chain.end_ rfl
            refine DG.knowP (t := 75) rfl (fun c6 => ?_) (fun c6 => ?_)
            · exact absurd rfl c6
            · apply DG.pure_ [12, 13] 3 rfl (by kernel_rfl) (by kernel_rfl)
              · intro w
                refine WL.move rfl rfl ?_
                refine WL.on rfl rfl ?_
                refine WL.fieldR (off := 0) Try.underlying31 rfl rfl Try.sizeOf3 rfl rfl rfl ?_
                exact Chain.end_ rfl
              apply DG.take [14, 15, 16] 0 rfl (by kernel_rfl) (by kernel_rfl) (M.sel (by first | ((repeat (first | with_reducible exact Sel.refl | with_reducible exact Sel.nil | with_reducible exact Del.here | with_reducible apply Del.there | with_reducible apply Sel.cons | with_reducible apply Sel.drop)); done) | (repeat (first | exact Sel.refl | exact Sel.nil | exact Del.here | apply Del.there | apply Sel.cons | apply Sel.drop))))
              · intro w M
                refine WL.on rfl rfl ?_
                refine WL.loadR Try.isAgg3 rfl M (by first | ((repeat (first | with_reducible exact Has.here | with_reducible refine Has.there ?_)); done) | (repeat (first | exact Has.here | refine Has.there ?_))) rfl rfl ?_
                refine WL.on rfl rfl ?_
                refine WL.neI rfl rfl rfl ?_
                refine WL.pickF rfl rfl rfl ?_
                exact Chain.end_ rfl
              refine DG.end_ (by kernel_rfl) ?_
              refine WX.next ?_
              refine W.sub [(0, _), (1, _), (5, _), (7, _), (10, _), (80, _)] (.cons rfl (.cons rfl (.cons rfl (.cons rfl (.cons rfl (.cons rfl .nil)))))) ?_
              refine W.ite rfl (fun c7 => ?_) (fun c7 => ?_)
              · exact absurd rfl c7
              · refine W.skip ?_
                refine WX.blockNormal ?_
                refine WX.next ?_
                refine W.region ?_
                refine WL.move rfl rfl ?_
                refine WL.add rfl rfl (by first | exact wI64 (by omega) | rfl) rfl ?_
                refine WL.assign rfl rfl ?_
                refine WL.nil ?_
                refine WX.round ((j + 1, x3)) (by (repeat' (first | exact envSub.nil | refine envSub.cons ?_ ?_)) <;> first | rfl | (refine congrArg some ?_; refine congrArg (Value.int _) ?_; first | omega | (dsimp only; omega)) | (simp; done) | (refine congrArg some ?_; dsimp only; congr 1; omega) | (simp; omega)) ⟨M.sel (by first | ((repeat (first | with_reducible exact Sel.refl | with_reducible exact Sel.nil | with_reducible exact Del.here | with_reducible apply Del.there | with_reducible apply Sel.cons | with_reducible apply Sel.drop)); done) | (repeat (first | exact Sel.refl | exact Sel.nil | exact Del.here | apply Del.there | apply Sel.cons | apply Sel.drop))), ⟨by dsimp only; omega, ho3, hone3⟩⟩ (by first | omega | (dsimp only; omega))
        · refine W.exit ?_
          refine WX.thenExit ?_
          refine WX.thenExit ?_
          refine WX.blockHere ?_
          refine WX.next ?_
          refine W.seq ?_
          obtain ⟨a, ha⟩ : ∃ a : Nat, IntKind.u64.wrap flows = (a : Int) := ⟨(flows % 18446744073709551616).toNat, by rw [mU64]; omega⟩
          obtain ⟨k, hk⟩ : ∃ k : Nat, 1 + (a : Int) % 8 = (k : Int) := ⟨1 + a % 8, by omega⟩
          have hk8 : 1 ≤ k ∧ k ≤ 8 := by omega
          refine W.region ?_
          refine WL.move rfl rfl ?_
          refine WL.conv Try.underlying3 Try.underlying43 rfl ha rfl ?_
          refine WL.rem rfl rfl (by omega) (remN (by omega)) rfl ?_
          refine WL.conv Try.underlying43 Try.underlying3 rfl (by first | exact wI64 (by omega) | rfl) rfl ?_
          refine WL.add rfl rfl (show IntKind.i64.wrap (1 + (a : Int) % 8) = (k : Int) by rw [hk]; exact wI64 (by omega)) rfl ?_
          refine WL.assign rfl rfl ?_
          refine WL.nil ?_
          refine WX.next ?_
          refine W.sub [(13, _)] (.cons rfl .nil) ?_
          refine W.seq ?_
          refine W.region ?_
          refine WL.assign rfl rfl ?_
          refine WL.nil ?_
          refine WX.next ?_
          refine W.sub [(13, _), (14, _)] (.cons rfl (.cons rfl .nil)) ?_
          refine W.seq ?_
          refine W.seq ?_
          refine W.region ?_
          refine WL.assign rfl rfl ?_
          refine WL.nil ?_
          refine WX.next ?_
          refine W.sub [(13, _), (14, _), (15, _)] (.cons rfl (.cons rfl (.cons rfl .nil))) ?_
          refine W.block ?_
          refine W.loop (ι := Nat × (Option Addr × Nat × List Int)) (fun z => [(13, .int .i64 (k : Int)), (14, .slice z.2.1 z.2.2.2.length z.2.2.1), (15, .int .i64 (z.1 : Int))]) (fun zz w => Mem w0 w ((fun z => [Asr.lst intE z.2.1 z.2.2.1 z.2.2.2]) zz) ∧ (fun z => z.1 ≤ k ∧ z.2.2.2 = List.replicate z.1 10) zz) (fun z => k - z.1) ((0, (none, 0, []))) (by (repeat' (first | exact envSub.nil | refine envSub.cons ?_ ?_)) <;> first | rfl | (refine congrArg some ?_; refine congrArg (Value.int _) ?_; first | omega | (dsimp only; omega)) | (simp; done) | (refine congrArg some ?_; dsimp only; congr 1; omega) | (simp; omega)) ⟨(Mem.nilOwn (M.sel (K := []) (by first | ((repeat (first | with_reducible exact Sel.refl | with_reducible exact Sel.nil | with_reducible exact Del.here | with_reducible apply Del.there | with_reducible apply Sel.cons | with_reducible apply Sel.drop)); done) | (repeat (first | exact Sel.refl | exact Sel.nil | exact Del.here | apply Del.there | apply Sel.cons | apply Sel.drop)))) 3 1), ⟨by simp, rfl⟩⟩ ?_
          clear M; rintro (⟨i3, B, c, T⟩) w ⟨M, ⟨hi3, hT⟩⟩; dsimp only at M hi3 hT ⊢
          refine W.sub [(13, _), (14, _), (15, _)] (.cons rfl (.cons rfl (.cons rfl .nil))) ?_
          refine W.seq ?_
          refine W.seq ?_
          refine W.region ?_
          refine WL.move rfl rfl ?_
          refine WL.move rfl rfl ?_
          refine WL.lss rfl rfl rfl ?_
          refine WL.nil ?_
          refine WX.next ?_
          refine W.sub [(13, _), (14, _), (15, _), (88, _)] (.cons rfl (.cons rfl (.cons rfl (.cons rfl .nil)))) ?_
          refine W.ite rfl (fun c8 => ?_) (fun c8 => ?_)
          · have hTl : T.length = i3 := by rw [hT]; simp
            refine W.skip ?_
            refine WX.next ?_
            refine W.seq ?_
            refine W.block ?_
            refine W.region ?_
            refine WL.move rfl rfl ?_
            refine WL.buildL (E := intE) (l := [10]) Try.elem3 M rfl rfl rfl rfl rfl rfl ?_
            intro g23_1 w M
            refine WL.appendL (E := intE) Try.elem3 rfl rfl M (by first | ((repeat (first | with_reducible exact Del.here | with_reducible apply Del.there)); done) | (repeat (first | exact Del.here | apply Del.there))) (by first | with_reducible assumption | with_reducible exact RdL.mem (by with_reducible assumption) M | exact M.rdL (by first | ((repeat (first | with_reducible exact Has.here | with_reducible refine Has.there ?_)); done) | (repeat (first | exact Has.here | refine Has.there ?_))) | exact RdLH.at (by assumption) (M.sel (by first | ((repeat (first | with_reducible exact Sel.refl | with_reducible exact Sel.nil | with_reducible exact Del.here | with_reducible apply Del.there | with_reducible apply Sel.cons | with_reducible apply Sel.drop)); done) | (repeat (first | exact Sel.refl | exact Sel.nil | exact Del.here | apply Del.there | apply Sel.cons | apply Sel.drop)))) | exact RdL.nil _ _ _) rfl rfl (by first | omega | (simp; done) | (simp; omega)) (by first | (simp only [maxLen]; omega) | (simp [maxLen]; done) | (simp [maxLen]; omega)) rfl ?_
            intro A23_2 cap23_2 w M
            refine WL.assign rfl rfl ?_
            refine WL.nil ?_
            refine WX.blockNormal ?_
            refine WX.next ?_
            refine W.sub [(13, _), (14, _), (15, _)] (.cons rfl (.cons rfl (.cons rfl .nil))) ?_
            refine W.region ?_
            refine WL.move rfl rfl ?_
            refine WL.add rfl rfl (by first | exact wI64 (by omega) | rfl) rfl ?_
            refine WL.assign rfl rfl ?_
            refine WL.nil ?_
            skip
            have q : T ++ [10] = List.replicate (i3 + 1) 10 := by rw [hT, List.replicate_succ']
            refine WX.round ((i3 + 1, (A23_2, cap23_2, T ++ [10]))) (by (repeat' (first | exact envSub.nil | refine envSub.cons ?_ ?_)) <;> first | rfl | (refine congrArg some ?_; refine congrArg (Value.int _) ?_; first | omega | (dsimp only; omega)) | (simp; done) | (refine congrArg some ?_; dsimp only; congr 1; omega) | (simp; omega)) ⟨M.sel (by first | ((repeat (first | with_reducible exact Sel.refl | with_reducible exact Sel.nil | with_reducible exact Del.here | with_reducible apply Del.there | with_reducible apply Sel.cons | with_reducible apply Sel.drop)); done) | (repeat (first | exact Sel.refl | exact Sel.nil | exact Del.here | apply Del.there | apply Sel.cons | apply Sel.drop))), ⟨by dsimp only; omega, q⟩⟩ (by first | omega | (dsimp only; omega))
          · obtain rfl : i3 = k := by omega
            subst hT
            have hTl : (List.replicate i3 (10 : Int)).length = i3 := by simp
            refine W.exit ?_
            refine WX.thenExit ?_
            refine WX.thenExit ?_
            refine WX.blockHere ?_
            refine WX.next ?_
            refine W.seq ?_
            refine W.region ?_
            refine WL.move rfl rfl ?_
            refine WL.call Try.call17 rfl (New_ok (l := List.replicate i3 10) (by first | with_reducible assumption | with_reducible exact RdL.mem (by with_reducible assumption) M | exact M.rdL (by first | ((repeat (first | with_reducible exact Has.here | with_reducible refine Has.there ?_)); done) | (repeat (first | exact Has.here | refine Has.there ?_))) | exact RdLH.at (by assumption) (M.sel (by first | ((repeat (first | with_reducible exact Sel.refl | with_reducible exact Sel.nil | with_reducible exact Del.here | with_reducible apply Del.there | with_reducible apply Sel.cons | with_reducible apply Sel.drop)); done) | (repeat (first | exact Sel.refl | exact Sel.nil | exact Del.here | apply Del.there | apply Sel.cons | apply Sel.drop)))) | exact RdL.nil _ _ _) (by omega)) rfl ?_
            rintro _ w h
            obtain ⟨y, rfl, hys, hyo, m⟩ : ∃ x : SdX, _ = Value.tuple #[.pointer (some ⟨x.g, 0, none⟩), .int .i64 0] ∧ x.s = newS (List.replicate i3 10) ∧ x.ok ∧ Mem _ w x.L := by
              rcases h with ⟨hb, _⟩ | ⟨_, h⟩
              · exact absurd hb (good10 hk8)
              · exact h
            replace M := M.callN m; clear m
            refine WL.move rfl rfl ?_
            refine WL.extractL rfl rfl rfl ?_
            refine WL.extractL rfl rfl rfl ?_
            refine WL.assign rfl rfl ?_
            refine WL.assign rfl rfl ?_
            refine WL.nil ?_
            refine WX.next ?_
            refine W.sub [(13, _), (16, _), (17, _)] (.cons rfl (.cons rfl (.cons rfl .nil))) ?_
            refine W.seq ?_
            refine W.seq ?_
            refine W.region ?_
            refine WL.move rfl rfl ?_
            refine WL.neI rfl rfl rfl ?_
            refine WL.moveIf rfl rfl (fun c9 => ?_) (fun c9 => ?_)
            · exact absurd rfl c9
            · refine WL.on rfl rfl ?_
              refine WL.move rfl rfl ?_
              refine WL.on rfl rfl ?_
              refine WL.eqNilF Try.underlying24 rfl rfl rfl ?_
              refine WL.pickF rfl rfl rfl ?_
              refine WL.nil ?_
              refine WX.next ?_
              refine W.sub [(13, _), (16, _), (104, _)] (.cons rfl (.cons rfl (.cons rfl .nil))) ?_
              refine W.condF rfl ?_
              refine W.skip ?_
              refine WX.next ?_
              refine W.seq ?_
              refine W.seq ?_
              refine W.region ?_
              refine WL.assign rfl rfl ?_
              refine WL.nil ?_
              refine WX.next ?_
              refine W.sub [(13, _), (16, _), (18, _)] (.cons rfl (.cons rfl (.cons rfl .nil))) ?_
              refine W.block ?_
              refine W.loop (ι := Nat × SdX) (fun z => [(13, .int .i64 (i3 : Int)), (16, .pointer (some ⟨z.2.g, 0, none⟩)), (18, .int .i64 (z.1 : Int))]) (fun zz w => Mem w0 w ((fun z => z.2.L ++ []) zz) ∧ (fun z => z.1 ≤ 5 * i3 ∧ z.2.ok ∧ z.2.s = oP i3 z.1) zz) (fun z => 5 * i3 - z.1) ((0, y)) (by (repeat' (first | exact envSub.nil | refine envSub.cons ?_ ?_)) <;> first | rfl | (refine congrArg some ?_; refine congrArg (Value.int _) ?_; first | omega | (dsimp only; omega)) | (simp; done) | (refine congrArg some ?_; dsimp only; congr 1; omega) | (simp; omega)) ⟨M.sel (by first | ((repeat (first | with_reducible exact Sel.refl | with_reducible exact Sel.nil | with_reducible exact Del.here | with_reducible apply Del.there | with_reducible apply Sel.cons | with_reducible apply Sel.drop)); done) | (repeat (first | exact Sel.refl | exact Sel.nil | exact Del.here | apply Del.there | apply Sel.cons | apply Sel.drop))), ⟨by simp, hyo, hys⟩⟩ ?_
              clear M; rintro (⟨i4, y⟩) w ⟨M, ⟨hi4, hyo, hys⟩⟩; dsimp only at M hi4 hyo hys ⊢
              refine W.sub [(13, _), (16, _), (18, _)] (.cons rfl (.cons rfl (.cons rfl .nil))) ?_
              refine W.seq ?_
              refine W.seq ?_
              refine W.region ?_
              refine WL.move rfl rfl ?_
              refine WL.move rfl rfl ?_
              refine WL.mul rfl rfl (by first | exact wI64 (by omega) | rfl) rfl ?_
              refine WL.lss rfl rfl rfl ?_
              refine WL.nil ?_
              refine WX.next ?_
              refine W.sub [(13, _), (16, _), (18, _), (108, _)] (.cons rfl (.cons rfl (.cons rfl (.cons rfl .nil)))) ?_
              refine W.ite rfl (fun c11 => ?_) (fun c11 => ?_)
              · refine W.skip ?_
                refine WX.next ?_
                refine W.seq ?_
                refine W.block ?_
                refine W.region ?_
                refine WL.move rfl rfl ?_
                refine WL.move rfl rfl ?_
                refine WL.move rfl rfl ?_
                refine WL.rem rfl rfl (by omega) (remN (by omega)) rfl ?_
                refine WL.move rfl rfl ?_
                refine WL.conv Try.underlying3 Try.underlying29 rfl (by first | exact wU64 (by omega) | exact mU64 _ | rfl) rfl ?_
                refine WL.buildP (places := #[(0, 1), (1, 1), (2, 1)]) Try.underlying31 Try.zeroValue31 (fun _ => by simp [Try.sizeOf3, Try.sizeOf3, Try.sizeOf29]) rfl (by repeat (first | exact Puts.nil | exact SetAt.zero | apply SetAt.succ | apply Puts.cons rfl rfl)) rfl ?_
                refine WL.call Try.call12 rfl (Push1_ok y hyo ⟨(i4 : Int) % (i3 : Int), 10, i4⟩ w0 w [] M) rfl ?_
                rintro _ w ⟨y1, rfl, hg1, hs1, ho1, M⟩
                rw [hg1]
                rw [hys] at hs1
                refine WL.nil ?_
                refine WX.blockNormal ?_
                refine WX.next ?_
                refine W.sub [(13, _), (16, _), (18, _)] (.cons rfl (.cons rfl (.cons rfl .nil))) ?_
                refine W.region ?_
                refine WL.move rfl rfl ?_
                refine WL.add rfl rfl (by first | exact wI64 (by omega) | rfl) rfl ?_
                refine WL.assign rfl rfl ?_
                refine WL.nil ?_
                refine WX.round ((i4 + 1, y1)) (by (repeat' (first | exact envSub.nil | refine envSub.cons ?_ ?_)) <;> first | rfl | (refine congrArg some ?_; refine congrArg (Value.int _) ?_; first | omega | (dsimp only; omega)) | (simp; done) | (refine congrArg some ?_; dsimp only; congr 1; omega) | (simp; omega)) ⟨M.sel (by first | ((repeat (first | with_reducible exact Sel.refl | with_reducible exact Sel.nil | with_reducible exact Del.here | with_reducible apply Del.there | with_reducible apply Sel.cons | with_reducible apply Sel.drop)); done) | (repeat (first | exact Sel.refl | exact Sel.nil | exact Del.here | apply Del.there | apply Sel.cons | apply Sel.drop))), ⟨by dsimp only; omega, ho1, hs1⟩⟩ (by first | omega | (dsimp only; omega))
              · refine W.exit ?_
                refine WX.thenExit ?_
                refine WX.thenExit ?_
                refine WX.blockHere ?_
                refine WX.next ?_
                refine W.seq ?_
                refine W.seq ?_
                obtain rfl : i4 = 5 * i3 := by omega
                have hc0 : chk (5 * i3) 0 y.s = true := by
                  rw [hys]
                  have h := one_turns (i3 - 1) (by omega)
                  rw [show i3 - 1 + 1 = i3 by omega] at h
                  exact h
                refine W.region ?_
                refine WL.assign rfl rfl ?_
                refine WL.nil ?_
                refine WX.next ?_
                refine W.sub [(13, _), (16, _), (19, _)] (.cons rfl (.cons rfl (.cons rfl .nil))) ?_
                refine W.block ?_
                refine W.loop (ι := Nat × SdX) (fun z => [(13, .int .i64 (i3 : Int)), (16, .pointer (some ⟨z.2.g, 0, none⟩)), (19, .int .i64 (z.1 : Int))]) (fun zz w => Mem w0 w ((fun z => z.2.L ++ []) zz) ∧ (fun z => z.1 ≤ 5 * i3 ∧ z.2.ok ∧ chk (5 * i3 - z.1) z.1 z.2.s = true) zz) (fun z => 5 * i3 - z.1) ((0, y)) (by (repeat' (first | exact envSub.nil | refine envSub.cons ?_ ?_)) <;> first | rfl | (refine congrArg some ?_; refine congrArg (Value.int _) ?_; first | omega | (dsimp only; omega)) | (simp; done) | (refine congrArg some ?_; dsimp only; congr 1; omega) | (simp; omega)) ⟨M.sel (by first | ((repeat (first | with_reducible exact Sel.refl | with_reducible exact Sel.nil | with_reducible exact Del.here | with_reducible apply Del.there | with_reducible apply Sel.cons | with_reducible apply Sel.drop)); done) | (repeat (first | exact Sel.refl | exact Sel.nil | exact Del.here | apply Del.there | apply Sel.cons | apply Sel.drop))), ⟨by simp, hyo, hc0⟩⟩ ?_
                clear M; rintro (⟨i5, y2⟩) w ⟨M, ⟨hi5, hyo2, hck⟩⟩; dsimp only at M hi5 hyo2 hck ⊢
                refine W.sub [(13, _), (16, _), (19, _)] (.cons rfl (.cons rfl (.cons rfl .nil))) ?_
                refine W.seq ?_
                refine W.seq ?_
                refine W.region ?_
                refine WL.move rfl rfl ?_
                refine WL.move rfl rfl ?_
                refine WL.mul rfl rfl (by first | exact wI64 (by omega) | rfl) rfl ?_
                refine WL.lss rfl rfl rfl ?_
                refine WL.nil ?_
                refine WX.next ?_
                refine W.sub [(13, _), (16, _), (19, _), (122, _)] (.cons rfl (.cons rfl (.cons rfl (.cons rfl .nil)))) ?_
                refine W.ite rfl (fun c12 => ?_) (fun c12 => ?_)
                · rw [show 5 * i3 - i5 = (5 * i3 - (i5 + 1)) + 1 by omega] at hck
                  obtain ⟨hn2, hid, hck2⟩ := chk_next hck
                  refine W.skip ?_
                  refine WX.next ?_
                  refine W.seq ?_
                  refine W.block ?_
                  refine W.seq ?_
                  refine W.region ?_
                  refine WL.move rfl rfl ?_
                  refine WL.call Try.call13 rfl (Pop1_ok y2 hyo2 hn2 w0 w [] M) rfl ?_
                  rintro _ w ⟨y3, rfl, hg3, hs3, ho3, M⟩
                  rw [hg3]
                  rw [← hs3] at hck2
                  unfold JX.v
                  refine WL.move rfl rfl ?_
                  refine WL.extractL rfl rfl rfl ?_
                  refine WL.extractL rfl rfl rfl ?_
                  refine WL.alloc Try.zeroValue31 M rfl ?_
                  intro g34_5 w M
                  try simp only [Value.cells] at M
                  try simp only [List.toList_toArray] at M
                  refine WL.storeWA Try.sizeOf31 rfl rfl (by repeat (first | exact oneNil | refine oneCons rfl ?_)) rfl rfl M (by first | ((repeat (first | with_reducible exact Upd.here | with_reducible apply Upd.there)); done) | (repeat (first | exact Upd.here | apply Upd.there))) ?_
                  intro w M
                  refine WL.assign rfl rfl ?_
                  refine WL.nil ?_
                  refine WX.next ?_
                  refine W.sub [(13, _), (16, _), (19, _), (20, _), (21, _)] (.cons rfl (.cons rfl (.cons rfl (.cons rfl (.cons rfl .nil))))) ?_
                  refine W.seq ?_
                  refine W.region ?_
                  refine WL.move rfl rfl ?_
                  refine WL.not rfl rfl ?_
                  refine WL.moveIfB rfl rfl (fun c13 => ?_) (fun c13 => ?_)
                  · exact absurd c13 (by decide)
                  · refine WL.on rfl rfl ?_
                    refine WL.fieldR (off := 2) Try.underlying31 rfl rfl Try.sizeOf29 rfl rfl rfl ?_
                    refine WL.on rfl rfl ?_
                    refine WL.loadR Try.isAgg29 rfl M (by first | ((repeat (first | with_reducible exact Has.here | with_reducible refine Has.there ?_)); done) | (repeat (first | exact Has.here | refine Has.there ?_))) rfl rfl ?_
                    refine WL.on rfl rfl ?_
                    refine WL.move rfl rfl ?_
                    refine WL.on rfl rfl ?_
                    refine WL.conv Try.underlying3 Try.underlying29 rfl (by first | exact wU64 (by omega) | exact mU64 _ | rfl) rfl ?_
                    refine WL.on rfl rfl ?_
                    refine WL.neI rfl rfl rfl ?_
                    refine WL.pickF rfl rfl rfl ?_
                    refine WL.nil ?_
                    refine WX.next ?_
                    refine W.sub [(13, _), (16, _), (19, _), (138, _)] (.cons rfl (.cons rfl (.cons rfl (.cons rfl .nil)))) ?_
                    refine W.ite rfl (fun c14 => ?_) (fun c14 => ?_)
                    · exact absurd (by rw [hid]) c14
                    · refine W.skip ?_
                      refine WX.blockNormal ?_
                      refine WX.next ?_
                      refine W.region ?_
                      refine WL.move rfl rfl ?_
                      refine WL.add rfl rfl (by first | exact wI64 (by omega) | rfl) rfl ?_
                      refine WL.assign rfl rfl ?_
                      refine WL.nil ?_
                      refine WX.round ((i5 + 1, y3)) (by (repeat' (first | exact envSub.nil | refine envSub.cons ?_ ?_)) <;> first | rfl | (refine congrArg some ?_; refine congrArg (Value.int _) ?_; first | omega | (dsimp only; omega)) | (simp; done) | (refine congrArg some ?_; dsimp only; congr 1; omega) | (simp; omega)) ⟨M.sel (by first | ((repeat (first | with_reducible exact Sel.refl | with_reducible exact Sel.nil | with_reducible exact Del.here | with_reducible apply Del.there | with_reducible apply Sel.cons | with_reducible apply Sel.drop)); done) | (repeat (first | exact Sel.refl | exact Sel.nil | exact Del.here | apply Del.there | apply Sel.cons | apply Sel.drop))), ⟨by dsimp only; omega, ho3, hck2⟩⟩ (by first | omega | (dsimp only; omega))
                · refine W.exit ?_
                  refine WX.thenExit ?_
                  refine WX.thenExit ?_
                  refine WX.blockHere ?_
                  refine WX.next ?_
                  refine W.seq ?_
                  refine W.region ?_
                  refine WL.call Try.call16 rfl (known21_ok _) rfl ?_
                  rintro _ w ⟨rfl, m⟩
                  replace M := M.call0 m; clear m
                  refine WL.assign rfl rfl ?_
                  refine WL.nil ?_
                  refine WX.next ?_
                  refine W.sub [(4, _)] (.cons rfl .nil) ?_
                  refine W.ret ?_
                  refine WX.ret1 rfl rfl ?_
                  exact ⟨rfl, M.sel (by first | ((repeat (first | with_reducible exact Sel.refl | with_reducible exact Sel.nil | with_reducible exact Del.here | with_reducible apply Del.there | with_reducible apply Sel.cons | with_reducible apply Sel.drop)); done) | (repeat (first | exact Sel.refl | exact Sel.nil | exact Del.here | apply Del.there | apply Sel.cons | apply Sel.drop)))⟩
    · refine WL.off rfl rfl rfl rfl ?_
      refine WL.off rfl rfl rfl rfl ?_
      refine WL.pickF rfl rfl rfl ?_
      refine WL.nil ?_
      refine WX.next ?_
      refine W.sub [(0, _), (1, _), (5, _), (7, _), (8, _), (40, _)] (.cons rfl (.cons rfl (.cons rfl (.cons rfl (.cons rfl (.cons rfl .nil)))))) ?_
      refine W.condF rfl ?_
      refine W.exit ?_
      refine WX.thenExit ?_
      refine WX.thenExit ?_
      refine WX.blockHere ?_
      refine WX.next ?_
      refine W.seq ?_
      refine W.seq ?_
      refine W.region ?_
      refine WL.assign rfl rfl ?_
      refine WL.nil ?_
      refine WX.next ?_
      refine W.sub [(0, _), (1, _), (5, _), (7, _), (10, _)] (.cons rfl (.cons rfl (.cons rfl (.cons rfl (.cons rfl .nil))))) ?_
      refine W.block ?_
      refine W.loop (ι := Nat × SdX) (fun z => [(0, .slice A0 l.length k0), (1, .int .i64 flows), (5, .pointer (some ⟨z.2.g, 0, none⟩)), (7, .int .i64 (i : Int)), (10, .int .i64 (z.1 : Int))]) (fun zz w => Mem w0 w ((fun z => z.2.L ++ []) zz) ∧ (fun z => z.1 ≤ i ∧ z.2.ok ∧ OneS z.2.s (((l.take i).map oneJ).drop z.1)) zz) (fun z => i - z.1) ((0, x)) (by (repeat' (first | exact envSub.nil | refine envSub.cons ?_ ?_)) <;> first | rfl | (refine congrArg some ?_; refine congrArg (Value.int _) ?_; first | omega | (dsimp only; omega)) | (simp; done) | (refine congrArg some ?_; dsimp only; congr 1; omega) | (simp; omega)) ⟨M.sel (by first | ((repeat (first | with_reducible exact Sel.refl | with_reducible exact Sel.nil | with_reducible exact Del.here | with_reducible apply Del.there | with_reducible apply Sel.cons | with_reducible apply Sel.drop)); done) | (repeat (first | exact Sel.refl | exact Sel.nil | exact Del.here | apply Del.there | apply Sel.cons | apply Sel.drop))), ⟨by simp, hxo, hone⟩⟩ ?_
      clear M; rintro (⟨j, x2⟩) w ⟨M, ⟨hj, hxo2, hone2⟩⟩; dsimp only at M hj hxo2 hone2 ⊢
      refine W.sub [(0, _), (1, _), (5, _), (7, _), (10, _)] (.cons rfl (.cons rfl (.cons rfl (.cons rfl (.cons rfl .nil))))) ?_
      refine W.seq ?_
      refine W.seq ?_
      refine W.region ?_
      refine WL.move rfl rfl ?_
      refine WL.move rfl rfl ?_
      refine WL.lss rfl rfl rfl ?_
      refine WL.nil ?_
      refine WX.next ?_
      refine W.sub [(0, _), (1, _), (5, _), (7, _), (10, _), (56, _)] (.cons rfl (.cons rfl (.cons rfl (.cons rfl (.cons rfl (.cons rfl .nil)))))) ?_
      refine W.ite rfl (fun c4 => ?_) (fun c4 => ?_)
      · have hjl : j < ((l.take i).map oneJ).length := by simp; omega
        rw [List.drop_eq_getElem_cons hjl] at hone2
        have he : ((l.take i).map oneJ)[j] = oneJ (el l j) := by
          have hjl2 : j < l.length := by omega
          simp [el, hjl2]
        rw [he] at hone2
        obtain ⟨hn2, hpj, hone3, hfl⟩ := hone2.pop
        refine W.skip ?_
        refine WX.next ?_
        refine W.seq ?_
        refine W.block ?_
        refine W.seq ?_
        refine W.region ?_
        refine WL.move rfl rfl ?_
        refine WL.call Try.call13 rfl (Pop1_ok x2 hxo2 hn2 w0 w [] M) rfl ?_
        rintro _ w ⟨x3, rfl, hg3, hs3, ho3, M⟩
        rw [hg3, hpj]
        rw [← hs3] at hone3
        unfold JX.v
        refine WL.move rfl rfl ?_
        refine WL.extractL rfl rfl rfl ?_
        refine WL.extractL rfl rfl rfl ?_
        refine WL.alloc Try.zeroValue31 M rfl ?_
        intro g15_5 w M
        try simp only [Value.cells] at M
        try simp only [List.toList_toArray] at M
        refine WL.storeWA Try.sizeOf31 rfl rfl (by repeat (first | exact oneNil | refine oneCons rfl ?_)) rfl rfl M (by first | ((repeat (first | with_reducible exact Upd.here | with_reducible apply Upd.there)); done) | (repeat (first | exact Upd.here | apply Upd.there))) ?_
        intro w M
        refine WL.assign rfl rfl ?_
        refine WL.nil ?_
        refine WX.next ?_
        refine W.sub [(0, _), (1, _), (5, _), (7, _), (10, _), (11, _), (12, _)] (.cons rfl (.cons rfl (.cons rfl (.cons rfl (.cons rfl (.cons rfl (.cons rfl .nil))))))) ?_
        refine W.seq ?_
        refine W.drawM ([Asr.row g15_5 31 [.int .i64 (oneJ (el l j)).flow, .int .i64 (oneJ (el l j)).cost, .int .u64 ((oneJ (el l j)).id : Int)]]) (by kernel_rfl) (fun j => [4, 9].contains j) M (by first | ((repeat (first | with_reducible exact Sel.refl | with_reducible exact Sel.nil | with_reducible exact Del.here | with_reducible apply Del.there | with_reducible apply Sel.cons | with_reducible apply Sel.drop)); done) | (repeat (first | exact Sel.refl | exact Sel.nil | exact Del.here | apply Del.there | apply Sel.cons | apply Sel.drop))) ?_
        clear M; intro M
        apply DG.pure_ [0, 1] 15 rfl (by kernel_rfl) (by kernel_rfl)
        · intro w
          refine WL.move rfl rfl ?_
          refine WL.not rfl rfl ?_
          exact Chain.end_ rfl
        refine DG.know (t := 65) rfl (fun c5 => ?_) (fun c5 => ?_)
        · (try simp only [Bool.not_eq_true'] at c5); (try simp only [Bool.not_eq_false'] at c5); (try simp only [decide_eq_true_eq] at c5); (try simp only [decide_eq_false_iff_not] at c5)
          exact absurd c5 (by decide)
        · (try simp only [Bool.not_eq_true'] at c5); (try simp only [Bool.not_eq_false'] at c5); (try simp only [decide_eq_true_eq] at c5); (try simp only [decide_eq_false_iff_not] at c5)
          apply DG.pure_ [2, 3, 5, 6, 7, 8] 9 rfl (by kernel_rfl) (by kernel_rfl)
          · intro w
            refine WL.move rfl rfl ?_
            refine WL.on rfl rfl ?_
            refine WL.fieldR (off := 2) Try.underlying31 rfl rfl Try.sizeOf29 rfl rfl rfl ?_
            refine WL.on rfl rfl ?_
            refine WL.move rfl rfl ?_
            refine WL.on rfl rfl ?_
            refine WL.move rfl rfl ?_
            refine WL.on rfl rfl ?_
            refine WL.idxA Try.underlying27 Try.sizeOf31 rfl rfl (RdL.isSome (E := jobE) (by first | with_reducible assumption | with_reducible exact RdL.mem (by with_reducible assumption) M | exact M.rdL (by first | ((repeat (first | with_reducible exact Has.here | with_reducible refine Has.there ?_)); done) | (repeat (first | exact Has.here | refine Has.there ?_))) | exact RdLH.at (by assumption) (M.sel (by first | ((repeat (first | with_reducible exact Sel.refl | with_reducible exact Sel.nil | with_reducible exact Del.here | with_reducible apply Del.there | with_reducible apply Sel.cons | with_reducible apply Sel.drop)); done) | (repeat (first | exact Sel.refl | exact Sel.nil | exact Del.here | apply Del.there | apply Sel.cons | apply Sel.drop)))) | exact RdL.nil _ _ _) (by omega)) (by omega) (by omega) (by first | exact rfl | exact (Int.toNat_of_nonneg (by omega)).symm) rfl ?_
            refine WL.on rfl rfl ?_
            refine WL.fieldA (off := 2) Try.underlying31 rfl rfl Try.sizeOf29 rfl rfl rfl ?_
            exact Chain.end_ rfl
          apply DG.take [4, 9, 10, 11] 5 rfl (by kernel_rfl) (by kernel_rfl) (M.sel (by first | ((repeat (first | with_reducible exact Sel.refl | with_reducible exact Sel.nil | with_reducible exact Del.here | with_reducible apply Del.there | with_reducible apply Sel.cons | with_reducible apply Sel.drop)); done) | (repeat (first | exact Sel.refl | exact Sel.nil | exact Del.here | apply Del.there | apply Sel.cons | apply Sel.drop))))
          · intro w M
            refine WL.on rfl rfl ?_
            refine WL.loadR Try.isAgg29 rfl M (by first | ((repeat (first | with_reducible exact Has.here | with_reducible refine Has.there ?_)); done) | (repeat (first | exact Has.here | refine Has.there ?_))) rfl rfl ?_
            refine WL.on rfl rfl ?_
            refine WL.loadE (E := jobE) Try.isAgg29 rfl (by first | with_reducible assumption | with_reducible exact RdL.mem (by with_reducible assumption) M | exact M.rdL (by first | ((repeat (first | with_reducible exact Has.here | with_reducible refine Has.there ?_)); done) | (repeat (first | exact Has.here | refine Has.there ?_))) | exact RdLH.at (by assumption) (M.sel (by first | ((repeat (first | with_reducible exact Sel.refl | with_reducible exact Sel.nil | with_reducible exact Del.here | with_reducible apply Del.there | with_reducible apply Sel.cons | with_reducible apply Sel.drop)); done) | (repeat (first | exact Sel.refl | exact Sel.nil | exact Del.here | apply Del.there | apply Sel.cons | apply Sel.drop)))) | exact RdL.nil _ _ _) (by omega) rfl rfl ?_
            refine WL.on rfl rfl ?_
            refine WL.neI rfl rfl rfl ?_
            refine WL.pickF rfl rfl rfl ?_
            exact Chain.end_ rfl
          refine DG.knowP (t := 75) rfl (fun c6 => ?_) (fun c6 => ?_)
          · exact absurd rfl c6
          · apply DG.pure_ [12, 13] 3 rfl (by kernel_rfl) (by kernel_rfl)
            · intro w
              refine WL.move rfl rfl ?_
              refine WL.on rfl rfl ?_
              refine WL.fieldR (off := 0) Try.underlying31 rfl rfl Try.sizeOf3 rfl rfl rfl ?_
              exact Chain.end_ rfl
            apply DG.take [14, 15, 16] 0 rfl (by kernel_rfl) (by kernel_rfl) (M.sel (by first | ((repeat (first | with_reducible exact Sel.refl | with_reducible exact Sel.nil | with_reducible exact Del.here | with_reducible apply Del.there | with_reducible apply Sel.cons | with_reducible apply Sel.drop)); done) | (repeat (first | exact Sel.refl | exact Sel.nil | exact Del.here | apply Del.there | apply Sel.cons | apply Sel.drop))))
            · intro w M
              refine WL.on rfl rfl ?_
              refine WL.loadR Try.isAgg3 rfl M (by first | ((repeat (first | with_reducible exact Has.here | with_reducible refine Has.there ?_)); done) | (repeat (first | exact Has.here | refine Has.there ?_))) rfl rfl ?_
              refine WL.on rfl rfl ?_
              refine WL.neI rfl rfl rfl ?_
              refine WL.pickF rfl rfl rfl ?_
              exact Chain.end_ rfl
            refine DG.end_ (by kernel_rfl) ?_
            refine WX.next ?_
            refine W.sub [(0, _), (1, _), (5, _), (7, _), (10, _), (80, _)] (.cons rfl (.cons rfl (.cons rfl (.cons rfl (.cons rfl (.cons rfl .nil)))))) ?_
            refine W.ite rfl (fun c7 => ?_) (fun c7 => ?_)
            · exact absurd rfl c7
            · refine W.skip ?_
              refine WX.blockNormal ?_
              refine WX.next ?_
              refine W.region ?_
              refine WL.move rfl rfl ?_
              refine WL.add rfl rfl (by first | exact wI64 (by omega) | rfl) rfl ?_
              refine WL.assign rfl rfl ?_
              refine WL.nil ?_
              refine WX.round ((j + 1, x3)) (by (repeat' (first | exact envSub.nil | refine envSub.cons ?_ ?_)) <;> first | rfl | (refine congrArg some ?_; refine congrArg (Value.int _) ?_; first | omega | (dsimp only; omega)) | (simp; done) | (refine congrArg some ?_; dsimp only; congr 1; omega) | (simp; omega)) ⟨M.sel (by first | ((repeat (first | with_reducible exact Sel.refl | with_reducible exact Sel.nil | with_reducible exact Del.here | with_reducible apply Del.there | with_reducible apply Sel.cons | with_reducible apply Sel.drop)); done) | (repeat (first | exact Sel.refl | exact Sel.nil | exact Del.here | apply Del.there | apply Sel.cons | apply Sel.drop))), ⟨by dsimp only; omega, ho3, hone3⟩⟩ (by first | omega | (dsimp only; omega))
      · refine W.exit ?_
        refine WX.thenExit ?_
        refine WX.thenExit ?_
        refine WX.blockHere ?_
        refine WX.next ?_
        refine W.seq ?_
        obtain ⟨a, ha⟩ : ∃ a : Nat, IntKind.u64.wrap flows = (a : Int) := ⟨(flows % 18446744073709551616).toNat, by rw [mU64]; omega⟩
        obtain ⟨k, hk⟩ : ∃ k : Nat, 1 + (a : Int) % 8 = (k : Int) := ⟨1 + a % 8, by omega⟩
        have hk8 : 1 ≤ k ∧ k ≤ 8 := by omega
        refine W.region ?_
        refine WL.move rfl rfl ?_
        refine WL.conv Try.underlying3 Try.underlying43 rfl ha rfl ?_
        refine WL.rem rfl rfl (by omega) (remN (by omega)) rfl ?_
        refine WL.conv Try.underlying43 Try.underlying3 rfl (by first | exact wI64 (by omega) | rfl) rfl ?_
        refine WL.add rfl rfl (show IntKind.i64.wrap (1 + (a : Int) % 8) = (k : Int) by rw [hk]; exact wI64 (by omega)) rfl ?_
        refine WL.assign rfl rfl ?_
        refine WL.nil ?_
        refine WX.next ?_
        refine W.sub [(13, _)] (.cons rfl .nil) ?_
        refine W.seq ?_
        refine W.region ?_
        refine WL.assign rfl rfl ?_
        refine WL.nil ?_
        refine WX.next ?_
        refine W.sub [(13, _), (14, _)] (.cons rfl (.cons rfl .nil)) ?_
        refine W.seq ?_
        refine W.seq ?_
        refine W.region ?_
        refine WL.assign rfl rfl ?_
        refine WL.nil ?_
        refine WX.next ?_
        refine W.sub [(13, _), (14, _), (15, _)] (.cons rfl (.cons rfl (.cons rfl .nil))) ?_
        refine W.block ?_
        refine W.loop (ι := Nat × (Option Addr × Nat × List Int)) (fun z => [(13, .int .i64 (k : Int)), (14, .slice z.2.1 z.2.2.2.length z.2.2.1), (15, .int .i64 (z.1 : Int))]) (fun zz w => Mem w0 w ((fun z => [Asr.lst intE z.2.1 z.2.2.1 z.2.2.2]) zz) ∧ (fun z => z.1 ≤ k ∧ z.2.2.2 = List.replicate z.1 10) zz) (fun z => k - z.1) ((0, (none, 0, []))) (by (repeat' (first | exact envSub.nil | refine envSub.cons ?_ ?_)) <;> first | rfl | (refine congrArg some ?_; refine congrArg (Value.int _) ?_; first | omega | (dsimp only; omega)) | (simp; done) | (refine congrArg some ?_; dsimp only; congr 1; omega) | (simp; omega)) ⟨(Mem.nilOwn (M.sel (K := []) (by first | ((repeat (first | with_reducible exact Sel.refl | with_reducible exact Sel.nil | with_reducible exact Del.here | with_reducible apply Del.there | with_reducible apply Sel.cons | with_reducible apply Sel.drop)); done) | (repeat (first | exact Sel.refl | exact Sel.nil | exact Del.here | apply Del.there | apply Sel.cons | apply Sel.drop)))) 3 1), ⟨by simp, rfl⟩⟩ ?_
        clear M; rintro (⟨i3, B, c, T⟩) w ⟨M, ⟨hi3, hT⟩⟩; dsimp only at M hi3 hT ⊢
        refine W.sub [(13, _), (14, _), (15, _)] (.cons rfl (.cons rfl (.cons rfl .nil))) ?_
        refine W.seq ?_
        refine W.seq ?_
        refine W.region ?_
        refine WL.move rfl rfl ?_
        refine WL.move rfl rfl ?_
        refine WL.lss rfl rfl rfl ?_
        refine WL.nil ?_
        refine WX.next ?_
        refine W.sub [(13, _), (14, _), (15, _), (88, _)] (.cons rfl (.cons rfl (.cons rfl (.cons rfl .nil)))) ?_
        refine W.ite rfl (fun c8 => ?_) (fun c8 => ?_)
        · have hTl : T.length = i3 := by rw [hT]; simp
          refine W.skip ?_
          refine WX.next ?_
          refine W.seq ?_
          refine W.block ?_
          refine W.region ?_
          refine WL.move rfl rfl ?_
          refine WL.buildL (E := intE) (l := [10]) Try.elem3 M rfl rfl rfl rfl rfl rfl ?_
          intro g23_1 w M
          refine WL.appendL (E := intE) Try.elem3 rfl rfl M (by first | ((repeat (first | with_reducible exact Del.here | with_reducible apply Del.there)); done) | (repeat (first | exact Del.here | apply Del.there))) (by first | with_reducible assumption | with_reducible exact RdL.mem (by with_reducible assumption) M | exact M.rdL (by first | ((repeat (first | with_reducible exact Has.here | with_reducible refine Has.there ?_)); done) | (repeat (first | exact Has.here | refine Has.there ?_))) | exact RdLH.at (by assumption) (M.sel (by first | ((repeat (first | with_reducible exact Sel.refl | with_reducible exact Sel.nil | with_reducible exact Del.here | with_reducible apply Del.there | with_reducible apply Sel.cons | with_reducible apply Sel.drop)); done) | (repeat (first | exact Sel.refl | exact Sel.nil | exact Del.here | apply Del.there | apply Sel.cons | apply Sel.drop)))) | exact RdL.nil _ _ _) rfl rfl (by first | omega | (simp; done) | (simp; omega)) (by first | (simp only [maxLen]; omega) | (simp [maxLen]; done) | (simp [maxLen]; omega)) rfl ?_
          intro A23_2 cap23_2 w M
          refine WL.assign rfl rfl ?_
          refine WL.nil ?_
          refine WX.blockNormal ?_
          refine WX.next ?_
          refine W.sub [(13, _), (14, _), (15, _)] (.cons rfl (.cons rfl (.cons rfl .nil))) ?_
          refine W.region ?_
          refine WL.move rfl rfl ?_
          refine WL.add rfl rfl (by first | exact wI64 (by omega) | rfl) rfl ?_
          refine WL.assign rfl rfl ?_
          refine WL.nil ?_
          skip
          have q : T ++ [10] = List.replicate (i3 + 1) 10 := by rw [hT, List.replicate_succ']
          refine WX.round ((i3 + 1, (A23_2, cap23_2, T ++ [10]))) (by (repeat' (first | exact envSub.nil | refine envSub.cons ?_ ?_)) <;> first | rfl | (refine congrArg some ?_; refine congrArg (Value.int _) ?_; first | omega | (dsimp only; omega)) | (simp; done) | (refine congrArg some ?_; dsimp only; congr 1; omega) | (simp; omega)) ⟨M.sel (by first | ((repeat (first | with_reducible exact Sel.refl | with_reducible exact Sel.nil | with_reducible exact Del.here | with_reducible apply Del.there | with_reducible apply Sel.cons | with_reducible apply Sel.drop)); done) | (repeat (first | exact Sel.refl | exact Sel.nil | exact Del.here | apply Del.there | apply Sel.cons | apply Sel.drop))), ⟨by dsimp only; omega, q⟩⟩ (by first | omega | (dsimp only; omega))
        · obtain rfl : i3 = k := by omega
          subst hT
          have hTl : (List.replicate i3 (10 : Int)).length = i3 := by simp
          refine W.exit ?_
          refine WX.thenExit ?_
          refine WX.thenExit ?_
          refine WX.blockHere ?_
          refine WX.next ?_
          refine W.seq ?_
          refine W.region ?_
          refine WL.move rfl rfl ?_
          refine WL.call Try.call17 rfl (New_ok (l := List.replicate i3 10) (by first | with_reducible assumption | with_reducible exact RdL.mem (by with_reducible assumption) M | exact M.rdL (by first | ((repeat (first | with_reducible exact Has.here | with_reducible refine Has.there ?_)); done) | (repeat (first | exact Has.here | refine Has.there ?_))) | exact RdLH.at (by assumption) (M.sel (by first | ((repeat (first | with_reducible exact Sel.refl | with_reducible exact Sel.nil | with_reducible exact Del.here | with_reducible apply Del.there | with_reducible apply Sel.cons | with_reducible apply Sel.drop)); done) | (repeat (first | exact Sel.refl | exact Sel.nil | exact Del.here | apply Del.there | apply Sel.cons | apply Sel.drop)))) | exact RdL.nil _ _ _) (by omega)) rfl ?_
          rintro _ w h
          obtain ⟨y, rfl, hys, hyo, m⟩ : ∃ x : SdX, _ = Value.tuple #[.pointer (some ⟨x.g, 0, none⟩), .int .i64 0] ∧ x.s = newS (List.replicate i3 10) ∧ x.ok ∧ Mem _ w x.L := by
            rcases h with ⟨hb, _⟩ | ⟨_, h⟩
            · exact absurd hb (good10 hk8)
            · exact h
          replace M := M.callN m; clear m
          refine WL.move rfl rfl ?_
          refine WL.extractL rfl rfl rfl ?_
          refine WL.extractL rfl rfl rfl ?_
          refine WL.assign rfl rfl ?_
          refine WL.assign rfl rfl ?_
          refine WL.nil ?_
          refine WX.next ?_
          refine W.sub [(13, _), (16, _), (17, _)] (.cons rfl (.cons rfl (.cons rfl .nil))) ?_
          refine W.seq ?_
          refine W.seq ?_
          refine W.region ?_
          refine WL.move rfl rfl ?_
          refine WL.neI rfl rfl rfl ?_
          refine WL.moveIf rfl rfl (fun c9 => ?_) (fun c9 => ?_)
          · exact absurd rfl c9
          · refine WL.on rfl rfl ?_
            refine WL.move rfl rfl ?_
            refine WL.on rfl rfl ?_
            refine WL.eqNilF Try.underlying24 rfl rfl rfl ?_
            refine WL.pickF rfl rfl rfl ?_
            refine WL.nil ?_
            refine WX.next ?_
            refine W.sub [(13, _), (16, _), (104, _)] (.cons rfl (.cons rfl (.cons rfl .nil))) ?_
            refine W.condF rfl ?_
            refine W.skip ?_
            refine WX.next ?_
            refine W.seq ?_
            refine W.seq ?_
            refine W.region ?_
            refine WL.assign rfl rfl ?_
            refine WL.nil ?_
            refine WX.next ?_
            refine W.sub [(13, _), (16, _), (18, _)] (.cons rfl (.cons rfl (.cons rfl .nil))) ?_
            refine W.block ?_
            refine W.loop (ι := Nat × SdX) (fun z => [(13, .int .i64 (i3 : Int)), (16, .pointer (some ⟨z.2.g, 0, none⟩)), (18, .int .i64 (z.1 : Int))]) (fun zz w => Mem w0 w ((fun z => z.2.L ++ []) zz) ∧ (fun z => z.1 ≤ 5 * i3 ∧ z.2.ok ∧ z.2.s = oP i3 z.1) zz) (fun z => 5 * i3 - z.1) ((0, y)) (by (repeat' (first | exact envSub.nil | refine envSub.cons ?_ ?_)) <;> first | rfl | (refine congrArg some ?_; refine congrArg (Value.int _) ?_; first | omega | (dsimp only; omega)) | (simp; done) | (refine congrArg some ?_; dsimp only; congr 1; omega) | (simp; omega)) ⟨M.sel (by first | ((repeat (first | with_reducible exact Sel.refl | with_reducible exact Sel.nil | with_reducible exact Del.here | with_reducible apply Del.there | with_reducible apply Sel.cons | with_reducible apply Sel.drop)); done) | (repeat (first | exact Sel.refl | exact Sel.nil | exact Del.here | apply Del.there | apply Sel.cons | apply Sel.drop))), ⟨by simp, hyo, hys⟩⟩ ?_
            clear M; rintro (⟨i4, y⟩) w ⟨M, ⟨hi4, hyo, hys⟩⟩; dsimp only at M hi4 hyo hys ⊢
            refine W.sub [(13, _), (16, _), (18, _)] (.cons rfl (.cons rfl (.cons rfl .nil))) ?_
            refine W.seq ?_
            refine W.seq ?_
            refine W.region ?_
            refine WL.move rfl rfl ?_
            refine WL.move rfl rfl ?_
            refine WL.mul rfl rfl (by first | exact wI64 (by omega) | rfl) rfl ?_
            refine WL.lss rfl rfl rfl ?_
            refine WL.nil ?_
            refine WX.next ?_
            refine W.sub [(13, _), (16, _), (18, _), (108, _)] (.cons rfl (.cons rfl (.cons rfl (.cons rfl .nil)))) ?_
            refine W.ite rfl (fun c11 => ?_) (fun c11 => ?_)
            · refine W.skip ?_
              refine WX.next ?_
              refine W.seq ?_
              refine W.block ?_
              refine W.region ?_
              refine WL.move rfl rfl ?_
              refine WL.move rfl rfl ?_
              refine WL.move rfl rfl ?_
              refine WL.rem rfl rfl (by omega) (remN (by omega)) rfl ?_
              refine WL.move rfl rfl ?_
              refine WL.conv Try.underlying3 Try.underlying29 rfl (by first | exact wU64 (by omega) | exact mU64 _ | rfl) rfl ?_
              refine WL.buildP (places := #[(0, 1), (1, 1), (2, 1)]) Try.underlying31 Try.zeroValue31 (fun _ => by simp [Try.sizeOf3, Try.sizeOf3, Try.sizeOf29]) rfl (by repeat (first | exact Puts.nil | exact SetAt.zero | apply SetAt.succ | apply Puts.cons rfl rfl)) rfl ?_
              refine WL.call Try.call12 rfl (Push1_ok y hyo ⟨(i4 : Int) % (i3 : Int), 10, i4⟩ w0 w [] M) rfl ?_
              rintro _ w ⟨y1, rfl, hg1, hs1, ho1, M⟩
              rw [hg1]
              rw [hys] at hs1
              refine WL.nil ?_
              refine WX.blockNormal ?_
              refine WX.next ?_
              refine W.sub [(13, _), (16, _), (18, _)] (.cons rfl (.cons rfl (.cons rfl .nil))) ?_
              refine W.region ?_
              refine WL.move rfl rfl ?_
              refine WL.add rfl rfl (by first | exact wI64 (by omega) | rfl) rfl ?_
              refine WL.assign rfl rfl ?_
              refine WL.nil ?_
              refine WX.round ((i4 + 1, y1)) (by (repeat' (first | exact envSub.nil | refine envSub.cons ?_ ?_)) <;> first | rfl | (refine congrArg some ?_; refine congrArg (Value.int _) ?_; first | omega | (dsimp only; omega)) | (simp; done) | (refine congrArg some ?_; dsimp only; congr 1; omega) | (simp; omega)) ⟨M.sel (by first | ((repeat (first | with_reducible exact Sel.refl | with_reducible exact Sel.nil | with_reducible exact Del.here | with_reducible apply Del.there | with_reducible apply Sel.cons | with_reducible apply Sel.drop)); done) | (repeat (first | exact Sel.refl | exact Sel.nil | exact Del.here | apply Del.there | apply Sel.cons | apply Sel.drop))), ⟨by dsimp only; omega, ho1, hs1⟩⟩ (by first | omega | (dsimp only; omega))
            · refine W.exit ?_
              refine WX.thenExit ?_
              refine WX.thenExit ?_
              refine WX.blockHere ?_
              refine WX.next ?_
              refine W.seq ?_
              refine W.seq ?_
              obtain rfl : i4 = 5 * i3 := by omega
              have hc0 : chk (5 * i3) 0 y.s = true := by
                rw [hys]
                have h := one_turns (i3 - 1) (by omega)
                rw [show i3 - 1 + 1 = i3 by omega] at h
                exact h
              refine W.region ?_
              refine WL.assign rfl rfl ?_
              refine WL.nil ?_
              refine WX.next ?_
              refine W.sub [(13, _), (16, _), (19, _)] (.cons rfl (.cons rfl (.cons rfl .nil))) ?_
              refine W.block ?_
              refine W.loop (ι := Nat × SdX) (fun z => [(13, .int .i64 (i3 : Int)), (16, .pointer (some ⟨z.2.g, 0, none⟩)), (19, .int .i64 (z.1 : Int))]) (fun zz w => Mem w0 w ((fun z => z.2.L ++ []) zz) ∧ (fun z => z.1 ≤ 5 * i3 ∧ z.2.ok ∧ chk (5 * i3 - z.1) z.1 z.2.s = true) zz) (fun z => 5 * i3 - z.1) ((0, y)) (by (repeat' (first | exact envSub.nil | refine envSub.cons ?_ ?_)) <;> first | rfl | (refine congrArg some ?_; refine congrArg (Value.int _) ?_; first | omega | (dsimp only; omega)) | (simp; done) | (refine congrArg some ?_; dsimp only; congr 1; omega) | (simp; omega)) ⟨M.sel (by first | ((repeat (first | with_reducible exact Sel.refl | with_reducible exact Sel.nil | with_reducible exact Del.here | with_reducible apply Del.there | with_reducible apply Sel.cons | with_reducible apply Sel.drop)); done) | (repeat (first | exact Sel.refl | exact Sel.nil | exact Del.here | apply Del.there | apply Sel.cons | apply Sel.drop))), ⟨by simp, hyo, hc0⟩⟩ ?_
              clear M; rintro (⟨i5, y2⟩) w ⟨M, ⟨hi5, hyo2, hck⟩⟩; dsimp only at M hi5 hyo2 hck ⊢
              refine W.sub [(13, _), (16, _), (19, _)] (.cons rfl (.cons rfl (.cons rfl .nil))) ?_
              refine W.seq ?_
              refine W.seq ?_
              refine W.region ?_
              refine WL.move rfl rfl ?_
              refine WL.move rfl rfl ?_
              refine WL.mul rfl rfl (by first | exact wI64 (by omega) | rfl) rfl ?_
              refine WL.lss rfl rfl rfl ?_
              refine WL.nil ?_
              refine WX.next ?_
              refine W.sub [(13, _), (16, _), (19, _), (122, _)] (.cons rfl (.cons rfl (.cons rfl (.cons rfl .nil)))) ?_
              refine W.ite rfl (fun c12 => ?_) (fun c12 => ?_)
              · rw [show 5 * i3 - i5 = (5 * i3 - (i5 + 1)) + 1 by omega] at hck
                obtain ⟨hn2, hid, hck2⟩ := chk_next hck
                refine W.skip ?_
                refine WX.next ?_
                refine W.seq ?_
                refine W.block ?_
                refine W.seq ?_
                refine W.region ?_
                refine WL.move rfl rfl ?_
                refine WL.call Try.call13 rfl (Pop1_ok y2 hyo2 hn2 w0 w [] M) rfl ?_
                rintro _ w ⟨y3, rfl, hg3, hs3, ho3, M⟩
                rw [hg3]
                rw [← hs3] at hck2
                unfold JX.v
                refine WL.move rfl rfl ?_
                refine WL.extractL rfl rfl rfl ?_
                refine WL.extractL rfl rfl rfl ?_
                refine WL.alloc Try.zeroValue31 M rfl ?_
                intro g34_5 w M
                try simp only [Value.cells] at M
                try simp only [List.toList_toArray] at M
                refine WL.storeWA Try.sizeOf31 rfl rfl (by repeat (first | exact oneNil | refine oneCons rfl ?_)) rfl rfl M (by first | ((repeat (first | with_reducible exact Upd.here | with_reducible apply Upd.there)); done) | (repeat (first | exact Upd.here | apply Upd.there))) ?_
                intro w M
                refine WL.assign rfl rfl ?_
                refine WL.nil ?_
                refine WX.next ?_
                refine W.sub [(13, _), (16, _), (19, _), (20, _), (21, _)] (.cons rfl (.cons rfl (.cons rfl (.cons rfl (.cons rfl .nil))))) ?_
                refine W.seq ?_
                refine W.region ?_
                refine WL.move rfl rfl ?_
                refine WL.not rfl rfl ?_
                refine WL.moveIfB rfl rfl (fun c13 => ?_) (fun c13 => ?_)
                · exact absurd c13 (by decide)
                · refine WL.on rfl rfl ?_
                  refine WL.fieldR (off := 2) Try.underlying31 rfl rfl Try.sizeOf29 rfl rfl rfl ?_
                  refine WL.on rfl rfl ?_
                  refine WL.loadR Try.isAgg29 rfl M (by first | ((repeat (first | with_reducible exact Has.here | with_reducible refine Has.there ?_)); done) | (repeat (first | exact Has.here | refine Has.there ?_))) rfl rfl ?_
                  refine WL.on rfl rfl ?_
                  refine WL.move rfl rfl ?_
                  refine WL.on rfl rfl ?_
                  refine WL.conv Try.underlying3 Try.underlying29 rfl (by first | exact wU64 (by omega) | exact mU64 _ | rfl) rfl ?_
                  refine WL.on rfl rfl ?_
                  refine WL.neI rfl rfl rfl ?_
                  refine WL.pickF rfl rfl rfl ?_
                  refine WL.nil ?_
                  refine WX.next ?_
                  refine W.sub [(13, _), (16, _), (19, _), (138, _)] (.cons rfl (.cons rfl (.cons rfl (.cons rfl .nil)))) ?_
                  refine W.ite rfl (fun c14 => ?_) (fun c14 => ?_)
                  · exact absurd (by rw [hid]) c14
                  · refine W.skip ?_
                    refine WX.blockNormal ?_
                    refine WX.next ?_
                    refine W.region ?_
                    refine WL.move rfl rfl ?_
                    refine WL.add rfl rfl (by first | exact wI64 (by omega) | rfl) rfl ?_
                    refine WL.assign rfl rfl ?_
                    refine WL.nil ?_
                    refine WX.round ((i5 + 1, y3)) (by (repeat' (first | exact envSub.nil | refine envSub.cons ?_ ?_)) <;> first | rfl | (refine congrArg some ?_; refine congrArg (Value.int _) ?_; first | omega | (dsimp only; omega)) | (simp; done) | (refine congrArg some ?_; dsimp only; congr 1; omega) | (simp; omega)) ⟨M.sel (by first | ((repeat (first | with_reducible exact Sel.refl | with_reducible exact Sel.nil | with_reducible exact Del.here | with_reducible apply Del.there | with_reducible apply Sel.cons | with_reducible apply Sel.drop)); done) | (repeat (first | exact Sel.refl | exact Sel.nil | exact Del.here | apply Del.there | apply Sel.cons | apply Sel.drop))), ⟨by dsimp only; omega, ho3, hck2⟩⟩ (by first | omega | (dsimp only; omega))
              · refine W.exit ?_
                refine WX.thenExit ?_
                refine WX.thenExit ?_
                refine WX.blockHere ?_
                refine WX.next ?_
                refine W.seq ?_
                refine W.region ?_
                refine WL.call Try.call16 rfl (known21_ok _) rfl ?_
                rintro _ w ⟨rfl, m⟩
                replace M := M.call0 m; clear m
                refine WL.assign rfl rfl ?_
                refine WL.nil ?_
                refine WX.next ?_
                refine W.sub [(4, _)] (.cons rfl .nil) ?_
                refine W.ret ?_
                refine WX.ret1 rfl rfl ?_
                exact ⟨rfl, M.sel (by first | ((repeat (first | with_reducible exact Sel.refl | with_reducible exact Sel.nil | with_reducible exact Del.here | with_reducible apply Del.there | with_reducible apply Sel.cons | with_reducible apply Sel.drop)); done) | (repeat (first | exact Sel.refl | exact Sel.nil | exact Del.here | apply Del.there | apply Sel.cons | apply Sel.drop)))⟩
end Go.Proofs.Ytdhmopmfnnlhcaa
