/-
  Walks: Apply (heal), of moves that go to some node.
-/
import Derived.Test.YtkdkdaljgoibaaaHeal3
namespace Go.Proofs.Ytkdkdaljgoibaaa
open Go Go.RowKit Bin

section
variable {α : Type} [Inhabited α] {f : α → Asr} {l : List α} {w0 w : World} {L : List Asr}
omit [Inhabited α] in
theorem perm_erase' : ∀ (l : List α) (k : Nat) (hk : k < l.length), (l[k] :: l.eraseIdx k).Perm l
  | a :: l, 0, _ => .refl _
  | a :: l, k + 1, hk => by
    have := perm_erase' l k (by simpa using hk)
    rw [List.eraseIdx_cons_succ, List.getElem_cons_succ]
    exact (List.Perm.swap _ _ _).trans (this.cons a)
theorem Mem.starAt (M : Mem w0 w (Asr.star (l.map f) :: L)) (k : Nat) (hk : k < l.length) : Mem w0 w (f (el l k) :: Asr.star ((l.eraseIdx k).map f) :: L) := by
  have h : (l.map f).Perm (f (el l k) :: (l.eraseIdx k).map f) := by
    have e : el l k = l[k] := by simp [el, hk]
    rw [e, ← List.map_cons]
    exact (perm_erase' l k hk).symm.map f
  exact (M.starPerm h).unstarCons
omit [Inhabited α] in
theorem Mem.starSet {x : α} (k : Nat) (hk : k < l.length) (M : Mem w0 w (f x :: Asr.star ((l.eraseIdx k).map f) :: L)) : Mem w0 w (Asr.star ((l.set k x).map f) :: L) := by
  refine M.starCons.starPerm ?_
  have h := perm_erase' (l.set k x) k (by simpa using hk)
  rw [List.getElem_set_self, List.eraseIdx_set_eq] at h
  rw [← List.map_cons]
  exact h.map f
end

theorem atP_chunk {ps : List Pl} {c : Int} (h : atP ps c < ps.length) : (el ps (atP ps c)).chunk = c := by
  have h1 := List.findIdx_getElem (xs := ps) (p := fun p : Pl => p.chunk == c) (w := h)
  have e : el ps (atP ps c) = ps[atP ps c] := by simp [el, h]
  rw [e]
  exact eq_of_beq h1
/-- A move to a node keeps what is asked of places. -/
theorem Formed.doM {ps : List Pl} {N : Nat} {m : Mv} (hF : Formed ps (N : Int)) (hm : mayM ps m) (ht : 0 ≤ m.to_ ∧ m.to_ < (N : Int)) : Formed (doM ps m) (N : Int) := by
  obtain ⟨hat, _, _, _, _, hno⟩ := hm
  have hc := atP_chunk hat
  have hp := hF.nodes _ (el_mem hat)
  have hmv : moveP (el ps (atP ps m.chunk)) m = ⟨m.chunk, insI m.to_ (el ps (atP ps m.chunk)).nodes⟩ := by unfold moveP; rw [if_neg (by omega), hc]
  unfold Go.Proofs.Ytkdkdaljgoibaaa.doM
  rw [hmv]
  have hchunks : (ps.set (atP ps m.chunk) ⟨m.chunk, insI m.to_ (el ps (atP ps m.chunk)).nodes⟩).map Pl.chunk = ps.map Pl.chunk := by
    rw [List.map_set]
    have e2 : (ps.map Pl.chunk)[atP ps m.chunk]'(by simpa using hat) = m.chunk := by
      rw [List.getElem_map]
      have e : el ps (atP ps m.chunk) = ps[atP ps m.chunk] := by simp [el, hat]
      rw [← e, hc]
    conv => lhs; rw [show (⟨m.chunk, insI m.to_ (el ps (atP ps m.chunk)).nodes⟩ : Pl).chunk = (ps.map Pl.chunk)[atP ps m.chunk]'(by simpa using hat) from e2.symm]
    exact List.set_getElem_self _
  refine ⟨fun p hp' => ?_, by rw [hchunks]; exact hF.chunks, fun p hp' => ?_, by rw [List.length_set]; exact hF.few⟩
  · rcases List.mem_or_eq_of_mem_set hp' with hp' | rfl
    · exact hF.nodes p hp'
    · refine ⟨insI_sorted hp.1 hno, fun x hx => ?_⟩
      rcases insI_mem.1 hx with rfl | hx
      · exact ht
      · exact hp.2 x hx
  · rcases List.mem_or_eq_of_mem_set hp' with hp' | rfl
    · exact hF.low p hp'
    · have := hF.low _ (el_mem hat)
      rw [hc] at this
      exact this
theorem Apply1_call : ∀ (args : Array Value) (w : World), (callFunc 19 args).run Try.prog w = .ok (.enter 19 args) w := Try.call19
def ap1 : FuncId := 19
theorem Apply1_ok {gm : Nat} {c k : Int} {A : Option Addr} {n cap : Nat} {w0 : World} (hm : Rd w0 (some ⟨gm, 0, none⟩) 1 1 1 [.int .i64 c]) :
    Fn Try.prog 19 [.agg #[.int .i64 k, .slice A n cap], .pointer (some ⟨gm, 0, none⟩)] w0 fun v w' => v = .bool (decide (k = c)) ∧ Mem w0 w' [] := by
  have M := Mem.refl w0
  obtain ⟨w, hw⟩ : ∃ w, w = w0 := ⟨w0, rfl⟩
  refine Fn.enter Try.func19 rfl Try.ntmps19 rfl ?_
  refine W.sub [(0, _), (1, _)] (.cons rfl (.cons rfl .nil)) ?_
  refine W.seq ?_
  refine W.region ?_
  refine WL.box rfl M rfl ?_
  intro g0_0 w M
  try simp only [Value.cells] at M
  try simp only [List.toList_toArray] at M
  refine WL.assign rfl rfl ?_
  refine WL.nil ?_
  refine WX.next ?_
  refine W.sub [(1, _), (2, _)] (.cons rfl (.cons rfl .nil)) ?_
  refine W.seq ?_
  refine W.region ?_
  refine WL.fieldR (off := 0) Try.underlying44 rfl rfl Try.sizeOf3 rfl rfl rfl ?_
  refine WL.loadR Try.isAgg3 rfl M (by first | ((repeat (first | with_reducible exact Has.here | with_reducible refine Has.there ?_)); done) | (repeat (first | exact Has.here | refine Has.there ?_))) rfl rfl ?_
  refine WL.fieldR (off := 0) Try.underlying54 rfl rfl Try.sizeOf3 rfl rfl rfl ?_
  refine WL.load Try.isAgg3 rfl ((Rd.mem hm M).one) rfl ?_
  refine WL.eqI rfl rfl rfl ?_
  refine WL.assign rfl rfl ?_
  refine WL.nil ?_
  refine WX.next ?_
  refine W.sub [(3, _)] (.cons rfl .nil) ?_
  refine W.ret ?_
  refine WX.ret1 rfl rfl ?_
  exact ⟨rfl, M.sel (by first | ((repeat (first | with_reducible exact Sel.refl | with_reducible exact Sel.nil | with_reducible exact Del.here | with_reducible apply Del.there | with_reducible apply Sel.cons | with_reducible apply Sel.drop)); done) | (repeat (first | exact Sel.refl | exact Sel.nil | exact Del.here | apply Del.there | apply Sel.cons | apply Sel.drop)))⟩
theorem pIndexF_ok {gm : Nat} {c : Int} {A : Option Addr} {cap : Nat} {l : List PlX} {w0 : World} (h : RdL w0 placeE A cap l) (hm : Rd w0 (some ⟨gm, 0, none⟩) 1 1 1 [.int .i64 c]) (hl : l.length ≤ 1000000) :
    Fn Try.prog 18 [.slice A l.length cap, .func (.func 19) #[] #[.pointer (some ⟨gm, 0, none⟩)]] w0 fun v w' => v = .int .i64 (atI l.length (l.findIdx fun p => p.chunk == c)) ∧ Mem w0 w' [] := by
  have M := Mem.refl w0
  obtain ⟨w, hw⟩ : ∃ w, w = w0 := ⟨w0, rfl⟩
  refine Fn.enter Try.func18 rfl Try.ntmps18 rfl ?_
  refine W.sub [(0, _), (1, _)] (.cons rfl (.cons rfl .nil)) ?_
  refine W.seq ?_
  refine W.region ?_
  refine WL.assign rfl rfl ?_
  refine WL.nil ?_
  refine WX.next ?_
  refine W.sub [(0, _), (1, _)] (.cons rfl (.cons rfl .nil)) ?_
  refine W.seq ?_
  refine W.seq ?_
  refine W.region ?_
  refine WL.move rfl rfl ?_
  refine WL.len Try.underlying24 rfl rfl ?_
  refine WL.move rfl rfl ?_
  refine WL.nil ?_
  refine WX.next ?_
  refine W.sub [(0, _), (1, _), (7, _), (8, _)] (.cons rfl (.cons rfl (.cons rfl (.cons rfl .nil)))) ?_
  refine W.block ?_
  refine W.loop (ι := Nat) (fun i => [(0, .slice A l.length cap), (1, .func (.func ap1) #[] #[.pointer (some ⟨gm, 0, none⟩)]), (7, .int .i64 (l.length : Int)), (8, .int .i64 (i : Int))]) (fun zz w => Mem w0 w ((fun _ => []) zz) ∧ (fun i => i ≤ l.length ∧ ∀ j, j < i → (el l j).chunk ≠ c) zz) (fun i => l.length - i) (0) (by (repeat' (first | exact envSub.nil | refine envSub.cons ?_ ?_)) <;> first | rfl | (refine congrArg some ?_; refine congrArg (Value.int _) ?_; first | omega | (dsimp only; omega)) | (simp; done) | (refine congrArg some ?_; dsimp only; congr 1; omega) | (simp; omega)) ⟨M.sel (by first | ((repeat (first | with_reducible exact Sel.refl | with_reducible exact Sel.nil | with_reducible exact Del.here | with_reducible apply Del.there | with_reducible apply Sel.cons | with_reducible apply Sel.drop)); done) | (repeat (first | exact Sel.refl | exact Sel.nil | exact Del.here | apply Del.there | apply Sel.cons | apply Sel.drop))), ⟨by omega, fun j hj => absurd hj (by omega)⟩⟩ ?_
  clear M; rintro (i) w ⟨M, ⟨hi, hs⟩⟩; dsimp only at M hi hs ⊢
  refine W.sub [(0, _), (1, _), (7, _), (8, _)] (.cons rfl (.cons rfl (.cons rfl (.cons rfl .nil)))) ?_
  refine W.seq ?_
  refine W.region ?_
  refine WL.lss rfl rfl rfl ?_
  refine WL.nil ?_
  refine WX.next ?_
  refine W.sub [(0, _), (1, _), (7, _), (8, _), (9, _)] (.cons rfl (.cons rfl (.cons rfl (.cons rfl (.cons rfl .nil))))) ?_
  refine W.seq ?_
  refine W.ite rfl (fun c0 => ?_) (fun c0 => ?_)
  · refine W.skip ?_
    refine WX.next ?_
    refine W.seq ?_
    refine W.block ?_
    refine W.seq ?_
    refine W.region ?_
    refine WL.move rfl rfl ?_
    refine WL.assign rfl rfl ?_
    refine WL.nil ?_
    refine WX.next ?_
    refine W.sub [(0, _), (1, _), (5, _), (7, _), (8, _)] (.cons rfl (.cons rfl (.cons rfl (.cons rfl (.cons rfl .nil))))) ?_
    refine W.seq ?_
    refine W.region ?_
    refine WL.move rfl rfl ?_
    refine WL.move rfl rfl ?_
    refine WL.move rfl rfl ?_
    refine WL.idxA Try.underlying24 Try.sizeOf44 rfl rfl (RdL.isSome (E := placeE) (by first | with_reducible assumption | with_reducible exact RdL.mem (by with_reducible assumption) M | exact M.rdL (by first | ((repeat (first | with_reducible exact Has.here | with_reducible refine Has.there ?_)); done) | (repeat (first | exact Has.here | refine Has.there ?_))) | exact RdLH.at (by assumption) (M.sel (by first | ((repeat (first | with_reducible exact Sel.refl | with_reducible exact Sel.nil | with_reducible exact Del.here | with_reducible apply Del.there | with_reducible apply Sel.cons | with_reducible apply Sel.drop)); done) | (repeat (first | exact Sel.refl | exact Sel.nil | exact Del.here | apply Del.there | apply Sel.cons | apply Sel.drop)))) | exact RdL.nil _ _ _) (by omega)) (by omega) (by omega) (by first | exact rfl | exact (Int.toNat_of_nonneg (by omega)).symm) rfl ?_
    refine WL.loadL (E := placeE) (cs := [_, _]) Try.isAgg44 Try.sizeOf44 rfl (by first | with_reducible assumption | with_reducible exact RdL.mem (by with_reducible assumption) M | exact M.rdL (by first | ((repeat (first | with_reducible exact Has.here | with_reducible refine Has.there ?_)); done) | (repeat (first | exact Has.here | refine Has.there ?_))) | exact RdLH.at (by assumption) (M.sel (by first | ((repeat (first | with_reducible exact Sel.refl | with_reducible exact Sel.nil | with_reducible exact Del.here | with_reducible apply Del.there | with_reducible apply Sel.cons | with_reducible apply Sel.drop)); done) | (repeat (first | exact Sel.refl | exact Sel.nil | exact Del.here | apply Del.there | apply Sel.cons | apply Sel.drop)))) | exact RdL.nil _ _ _) rfl (by omega) rfl rfl ?_
    refine WL.callV Apply1_call rfl rfl (Apply1_ok (Rd.mem hm M)) rfl ?_
    rintro _ w ⟨rfl, m⟩
    replace M := M.call0 m; clear m
    refine WL.nil ?_
    refine WX.next ?_
    refine W.sub [(0, _), (1, _), (5, _), (7, _), (8, _), (16, _)] (.cons rfl (.cons rfl (.cons rfl (.cons rfl (.cons rfl (.cons rfl .nil)))))) ?_
    refine W.cond rfl (fun c1 => ?_) (fun c1 => ?_)
    · (try simp only [Bool.not_eq_true'] at c1); (try simp only [Bool.not_eq_false'] at c1); (try simp only [decide_eq_true_eq] at c1); (try simp only [decide_eq_false_iff_not] at c1)
      refine W.seq ?_
      refine W.region ?_
      refine WL.move rfl rfl ?_
      refine WL.assign rfl rfl ?_
      refine WL.nil ?_
      refine WX.next ?_
      refine W.sub [(4, _)] (.cons rfl .nil) ?_
      refine W.ret ?_
      refine WX.blockRet ?_
      refine WX.thenRet ?_
      refine WX.thenRet ?_
      refine WX.blockRet ?_
      refine WX.thenRet ?_
      refine WX.ret1 rfl rfl ?_
      have e : l.findIdx (fun p => p.chunk == c) = i := findIdx_of (by omega) (by simpa using c1) (fun j hj => by simpa using hs j hj)
      rw [e, atI_in (by omega)]
      exact ⟨rfl, M⟩
    · (try simp only [Bool.not_eq_true'] at c1); (try simp only [Bool.not_eq_false'] at c1); (try simp only [decide_eq_true_eq] at c1); (try simp only [decide_eq_false_iff_not] at c1)
      refine W.skip ?_
      refine WX.blockNormal ?_
      refine WX.next ?_
      refine W.region ?_
      refine WL.add rfl rfl (by first | exact wI64 (by omega) | rfl) rfl ?_
      refine WL.move rfl rfl ?_
      refine WL.nil ?_
      skip
      have q : ∀ j, j < i + 1 → (el l j).chunk ≠ c := by
        intro j hj
        rcases Nat.lt_or_ge j i with h1 | h1
        · exact hs j h1
        · obtain rfl : j = i := by omega
          simpa using c1
      refine WX.round (i + 1) (by (repeat' (first | exact envSub.nil | refine envSub.cons ?_ ?_)) <;> first | rfl | (refine congrArg some ?_; refine congrArg (Value.int _) ?_; first | omega | (dsimp only; omega)) | (simp; done) | (refine congrArg some ?_; dsimp only; congr 1; omega) | (simp; omega)) ⟨M.sel (by first | ((repeat (first | with_reducible exact Sel.refl | with_reducible exact Sel.nil | with_reducible exact Del.here | with_reducible apply Del.there | with_reducible apply Sel.cons | with_reducible apply Sel.drop)); done) | (repeat (first | exact Sel.refl | exact Sel.nil | exact Del.here | apply Del.there | apply Sel.cons | apply Sel.drop))), ⟨by omega, q⟩⟩ (by first | omega | (dsimp only; omega))
  · refine W.exit ?_
    refine WX.thenExit ?_
    refine WX.thenExit ?_
    refine WX.blockHere ?_
    refine WX.next ?_
    refine W.seq ?_
    refine W.region ?_
    refine WL.assign rfl rfl ?_
    refine WL.nil ?_
    refine WX.next ?_
    refine W.sub [(4, _)] (.cons rfl .nil) ?_
    refine W.ret ?_
    refine WX.ret1 rfl rfl ?_
    obtain rfl : i = l.length := by omega
    have e : l.findIdx (fun p => p.chunk == c) = l.length := findIdx_no (fun j hj => by simpa using hs j hj)
    rw [e, atI_out (by omega)]
    exact ⟨rfl, M⟩
set_option maxHeartbeats 4000000 in
set_option maxRecDepth 10000 in
theorem Apply_ok {A Am : Option Addr} {cap cm N : Nat} {ps : List PlX} {ms : List Mv} {qs : List Pl} (hN : N ≤ 12) (hF : Formed (ps.map PlX.key) (N : Int)) (hM : Moves (ps.map PlX.key) ms qs) (hto : ∀ m ∈ ms, 0 ≤ m.to_ ∧ m.to_ < (N : Int)) (hml : ms.length ≤ 4000) {w0 : World} (h : RdP w0 A cap ps) (hm : RdL w0 moveE Am cm ms) :
    Fn Try.prog 7 [.slice A ps.length cap, .slice Am ms.length cm] w0 fun v w' => ∃ Ao co out, v = .tuple #[.slice Ao (List.length out) co, .int .i64 0] ∧ out.map PlX.key = qs ∧ Mem w0 w' [Asr.lst placeE Ao co out, Asr.star (out.map PlX.O)] := by
  have M := Mem.refl w0
  obtain ⟨w, hw⟩ : ∃ w, w = w0 := ⟨w0, rfl⟩
  have hF' := Formed'.of hF
  have hall := h.all
  have hfew := hF'.few
  have hln : ∀ p ∈ ps, p.nodes.length ≤ 12 := fun p hp => by have := hF.len p.key (List.mem_map.2 ⟨p, hp, rfl⟩); unfold PlX.key at this; dsimp only at this; omega
  refine Fn.enter Try.func7 rfl Try.ntmps7 rfl ?_
  refine W.sub [(0, _), (1, _)] (.cons rfl (.cons rfl .nil)) ?_
  refine W.seq ?_
  refine W.region ?_
  refine WL.assign rfl rfl ?_
  refine WL.assign rfl rfl ?_
  refine WL.nil ?_
  refine WX.next ?_
  refine W.sub [(0, _), (1, _)] (.cons rfl (.cons rfl .nil)) ?_
  refine W.seq ?_
  refine W.seq ?_
  refine W.region ?_
  refine WL.move rfl rfl ?_
  refine WL.call Try.call17 rfl (formed_ok (h.mem M) 4611686018427387904 (by omega) (hF.wide (by omega)) (fun p hp => by have := hln p hp; omega)) rfl ?_
  rintro _ w ⟨rfl, m⟩
  replace M := M.call0 m; clear m
  refine WL.not rfl rfl ?_
  refine WL.nil ?_
  refine WX.next ?_
  refine W.sub [(0, _), (1, _), (16, _)] (.cons rfl (.cons rfl (.cons rfl .nil))) ?_
  refine W.condF rfl ?_
  refine W.skip ?_
  refine WX.next ?_
  refine W.seq ?_
  refine W.region ?_
  refine WL.assign rfl rfl ?_
  refine WL.nil ?_
  refine WX.next ?_
  refine W.sub [(0, _), (1, _), (6, _)] (.cons rfl (.cons rfl (.cons rfl .nil))) ?_
  refine W.seq ?_
  refine W.seq ?_
  refine W.region ?_
  refine WL.move rfl rfl ?_
  refine WL.len Try.underlying24 rfl rfl ?_
  refine WL.move rfl rfl ?_
  refine WL.nil ?_
  refine WX.next ?_
  refine W.sub [(1, _), (6, _), (17, _), (18, _), (19, _)] (.cons rfl (.cons rfl (.cons rfl (.cons rfl (.cons rfl .nil))))) ?_
  refine W.block ?_
  refine W.loop (ι := Nat × (Option Addr × Nat × List PlX)) (fun z => [(1, .slice Am ms.length cm), (6, .slice z.2.1 z.2.2.2.length z.2.2.1), (17, .slice A ps.length cap), (18, .int .i64 (ps.length : Int)), (19, .int .i64 (z.1 : Int))]) (fun zz w => Mem w0 w ((fun z => [Asr.lst placeE z.2.1 z.2.2.1 z.2.2.2, Asr.star (z.2.2.2.map PlX.O)]) zz) ∧ (fun z => z.1 ≤ ps.length ∧ z.2.2.2.map PlX.key = (ps.map PlX.key).take z.1 ∧ z.2.2.2.length = z.1) zz) (fun z => ps.length - z.1) ((0, (none, 0, []))) (by (repeat' (first | exact envSub.nil | refine envSub.cons ?_ ?_)) <;> first | rfl | (refine congrArg some ?_; refine congrArg (Value.int _) ?_; first | omega | (dsimp only; omega)) | (simp; done) | (refine congrArg some ?_; dsimp only; congr 1; omega) | (simp; omega)) ⟨(Mem.nilOwn (Mem.starNil (M.sel (K := []) (by first | ((repeat (first | with_reducible exact Sel.refl | with_reducible exact Sel.nil | with_reducible exact Del.here | with_reducible apply Del.there | with_reducible apply Sel.cons | with_reducible apply Sel.drop)); done) | (repeat (first | exact Sel.refl | exact Sel.nil | exact Del.here | apply Del.there | apply Sel.cons | apply Sel.drop))))) 44 2), ⟨Nat.zero_le _, by simp, rfl⟩⟩ ?_
  clear M; rintro (⟨i, Ao, co, out⟩) w ⟨M, ⟨hi, hok, hol⟩⟩; dsimp only at M hi hok hol ⊢
  refine W.sub [(1, _), (6, _), (17, _), (18, _), (19, _)] (.cons rfl (.cons rfl (.cons rfl (.cons rfl (.cons rfl .nil))))) ?_
  refine W.seq ?_
  refine W.region ?_
  refine WL.lss rfl rfl rfl ?_
  refine WL.nil ?_
  refine WX.next ?_
  refine W.sub [(1, _), (6, _), (17, _), (18, _), (19, _), (20, _)] (.cons rfl (.cons rfl (.cons rfl (.cons rfl (.cons rfl (.cons rfl .nil)))))) ?_
  refine W.seq ?_
  refine W.ite rfl (fun c1 => ?_) (fun c1 => ?_)
  · have hil : i < ps.length := by omega
    have hrd := h.at_ hil
    have hnl := hln _ (el_mem hil)
    refine W.skip ?_
    refine WX.next ?_
    refine W.seq ?_
    refine W.block ?_
    refine W.seq ?_
    refine W.region ?_
    refine WL.idxA Try.underlying24 Try.sizeOf44 rfl rfl (RdL.isSome (E := placeE) (by first | with_reducible assumption | with_reducible exact RdL.mem (by with_reducible assumption) M | exact M.rdL (by first | ((repeat (first | with_reducible exact Has.here | with_reducible refine Has.there ?_)); done) | (repeat (first | exact Has.here | refine Has.there ?_))) | exact RdLH.at (by assumption) (M.sel (by first | ((repeat (first | with_reducible exact Sel.refl | with_reducible exact Sel.nil | with_reducible exact Del.here | with_reducible apply Del.there | with_reducible apply Sel.cons | with_reducible apply Sel.drop)); done) | (repeat (first | exact Sel.refl | exact Sel.nil | exact Del.here | apply Del.there | apply Sel.cons | apply Sel.drop)))) | exact RdL.nil _ _ _) (by omega)) (by omega) (by omega) (by first | exact rfl | exact (Int.toNat_of_nonneg (by omega)).symm) rfl ?_
    refine WL.loadL (E := placeE) (cs := [_, _]) Try.isAgg44 Try.sizeOf44 rfl (by first | with_reducible assumption | with_reducible exact RdL.mem (by with_reducible assumption) M | exact M.rdL (by first | ((repeat (first | with_reducible exact Has.here | with_reducible refine Has.there ?_)); done) | (repeat (first | exact Has.here | refine Has.there ?_))) | exact RdLH.at (by assumption) (M.sel (by first | ((repeat (first | with_reducible exact Sel.refl | with_reducible exact Sel.nil | with_reducible exact Del.here | with_reducible apply Del.there | with_reducible apply Sel.cons | with_reducible apply Sel.drop)); done) | (repeat (first | exact Sel.refl | exact Sel.nil | exact Del.here | apply Del.there | apply Sel.cons | apply Sel.drop)))) | exact RdL.nil _ _ _) rfl (by omega) rfl rfl ?_
    refine WL.alloc Try.zeroValue44 M rfl ?_
    intro g6_2 w M
    try simp only [Value.cells] at M
    try simp only [List.toList_toArray] at M
    refine WL.storeWA Try.sizeOf44 rfl rfl (by repeat (first | exact oneNil | refine oneCons rfl ?_)) rfl rfl M (by first | ((repeat (first | with_reducible exact Upd.here | with_reducible apply Upd.there)); done) | (repeat (first | exact Upd.here | apply Upd.there))) ?_
    intro w M
    refine WL.nil ?_
    refine WX.next ?_
    refine W.sub [(1, _), (6, _), (8, _), (17, _), (18, _), (19, _)] (.cons rfl (.cons rfl (.cons rfl (.cons rfl (.cons rfl (.cons rfl .nil)))))) ?_
    refine W.drawM ([Asr.row g6_2 44 [.int .i64 (el ps i).chunk, .slice (el ps i).A (el ps i).nodes.length (el ps i).cap]]) (by kernel_rfl) (fun j => [2, 4, 5].contains j) M (by first | ((repeat (first | with_reducible exact Sel.refl | with_reducible exact Sel.nil | with_reducible exact Del.here | with_reducible apply Del.there | with_reducible apply Sel.cons | with_reducible apply Sel.drop)); done) | (repeat (first | exact Sel.refl | exact Sel.nil | exact Del.here | apply Del.there | apply Sel.cons | apply Sel.drop))) ?_
    clear M; intro M
    apply DG.pure_ [0, 1, 3] 7 rfl (by kernel_rfl) (by kernel_rfl)
    · intro w
      refine WL.move rfl rfl ?_
      refine WL.fieldR (off := 0) Try.underlying44 rfl rfl Try.sizeOf3 rfl rfl rfl ?_
      refine WL.fieldR (off := 1) Try.underlying44 rfl rfl Try.sizeOf22 rfl rfl rfl ?_
      exact Chain.end_ rfl
    apply DG.take [2, 4] 5 rfl (by kernel_rfl) (by kernel_rfl) (M.sel (by first | ((repeat (first | with_reducible exact Sel.refl | with_reducible exact Sel.nil | with_reducible exact Del.here | with_reducible apply Del.there | with_reducible apply Sel.cons | with_reducible apply Sel.drop)); done) | (repeat (first | exact Sel.refl | exact Sel.nil | exact Del.here | apply Del.there | apply Sel.cons | apply Sel.drop))))
    · intro w M
      refine WL.loadR Try.isAgg3 rfl M (by first | ((repeat (first | with_reducible exact Has.here | with_reducible refine Has.there ?_)); done) | (repeat (first | exact Has.here | refine Has.there ?_))) rfl rfl ?_
      refine WL.loadR Try.isAgg22 rfl M (by first | ((repeat (first | with_reducible exact Has.here | with_reducible refine Has.there ?_)); done) | (repeat (first | exact Has.here | refine Has.there ?_))) rfl rfl ?_
      exact Chain.end_ rfl
    refine DG.step 5 4 rfl (by kernel_rfl) ?_
    refine WL.call Try.call12 rfl (sClone_ok (hrd.mem M) (by omega)) rfl ?_
    rintro _ w ⟨Ah, ch, rfl, m⟩
    replace M := M.call1 m; clear m
    refine DG.go (G := fun j => [2, 4, 5].contains j) (i := 5) (f' := 4) (done := [0, 1, 3, 2, 4]) (fun _ => M.sel (by first | ((repeat (first | with_reducible exact Sel.refl | with_reducible exact Sel.nil | with_reducible exact Del.here | with_reducible apply Del.there | with_reducible apply Sel.cons | with_reducible apply Sel.drop)); done) | (repeat (first | exact Sel.refl | exact Sel.nil | exact Del.here | apply Del.there | apply Sel.cons | apply Sel.drop)))) ?_
    apply DG.pure_ [6] 3 rfl (by kernel_rfl) (by kernel_rfl)
    · intro w
      refine WL.buildP (places := #[(0, 1), (1, 1)]) Try.underlying44 Try.zeroValue44 (fun _ => by simp [Try.sizeOf3, Try.sizeOf22]) rfl (by repeat (first | exact Puts.nil | exact SetAt.zero | apply SetAt.succ | apply Puts.cons rfl rfl)) rfl ?_
      exact Chain.end_ rfl
    refine DG.step 7 2 rfl (by kernel_rfl) ?_
    refine WL.buildL (E := placeE) (l := [(⟨(el ps i).chunk, Ah, ch, (el ps i).nodes⟩ : PlX)]) Try.elem44 M rfl rfl rfl rfl rfl rfl ?_
    intro g7_7 w M
    refine DG.go (G := fun j => [2, 4, 5].contains j) (i := 7) (f' := 2) (done := [0, 1, 3, 2, 4, 5, 6]) (fun h => by cases h) ?_
    refine DG.step 8 1 rfl (by kernel_rfl) ?_
    refine WL.appendL (E := placeE) Try.elem44 rfl rfl M (by first | ((repeat (first | with_reducible exact Del.here | with_reducible apply Del.there)); done) | (repeat (first | exact Del.here | apply Del.there))) (by first | with_reducible assumption | with_reducible exact RdL.mem (by with_reducible assumption) M | exact M.rdL (by first | ((repeat (first | with_reducible exact Has.here | with_reducible refine Has.there ?_)); done) | (repeat (first | exact Has.here | refine Has.there ?_))) | exact RdLH.at (by assumption) (M.sel (by first | ((repeat (first | with_reducible exact Sel.refl | with_reducible exact Sel.nil | with_reducible exact Del.here | with_reducible apply Del.there | with_reducible apply Sel.cons | with_reducible apply Sel.drop)); done) | (repeat (first | exact Sel.refl | exact Sel.nil | exact Del.here | apply Del.there | apply Sel.cons | apply Sel.drop)))) | exact RdL.nil _ _ _) rfl rfl (by first | omega | (simp; done) | (simp; omega)) (by first | (simp only [maxLen]; omega) | (simp [maxLen]; done) | (simp [maxLen]; omega)) rfl ?_
    intro A7_8 cap7_8 w M
    refine DG.go (G := fun j => [2, 4, 5].contains j) (i := 8) (f' := 1) (done := [0, 1, 3, 2, 4, 5, 6, 7]) (fun h => by cases h) ?_
    apply DG.pure_ [9] 0 rfl (by kernel_rfl) (by kernel_rfl)
    · intro w
      refine WL.assign rfl rfl ?_
      exact Chain.end_ rfl
    refine DG.end_ (by kernel_rfl) ?_
    refine WX.blockNormal ?_
    refine WX.next ?_
    refine W.sub [(1, _), (6, _), (17, _), (18, _), (19, _)] (.cons rfl (.cons rfl (.cons rfl (.cons rfl (.cons rfl .nil))))) ?_
    refine W.region ?_
    refine WL.add rfl rfl (by first | exact wI64 (by omega) | rfl) rfl ?_
    refine WL.move rfl rfl ?_
    refine WL.nil ?_
    skip
    have q : (out ++ [(⟨(el ps i).chunk, Ah, ch, (el ps i).nodes⟩ : PlX)]).map PlX.key = (ps.map PlX.key).take (i + 1) := by
      rw [List.take_succ_eq_append_getElem (by simpa using hil), ← hok, List.map_append]
      congr 1
      rw [List.getElem_map]
      simp [PlX.key, el, hil]
    have M2 : Mem w0 w [Asr.star ((out ++ [(⟨(el ps i).chunk, Ah, ch, (el ps i).nodes⟩ : PlX)]).map PlX.O), Asr.lst placeE A7_8 cap7_8 (out ++ [(⟨(el ps i).chunk, Ah, ch, (el ps i).nodes⟩ : PlX)])] := by
      rw [List.map_append]
      refine Mem.starSnoc ?_
      exact M.sel (by first | ((repeat (first | with_reducible exact Sel.refl | with_reducible exact Sel.nil | with_reducible exact Del.here | with_reducible apply Del.there | with_reducible apply Sel.cons | with_reducible apply Sel.drop)); done) | (repeat (first | exact Sel.refl | exact Sel.nil | exact Del.here | apply Del.there | apply Sel.cons | apply Sel.drop)))
    replace M := M2
    refine WX.round ((i + 1, (A7_8, cap7_8, out ++ [(⟨(el ps i).chunk, Ah, ch, (el ps i).nodes⟩ : PlX)]))) (by (repeat' (first | exact envSub.nil | refine envSub.cons ?_ ?_)) <;> first | rfl | (refine congrArg some ?_; refine congrArg (Value.int _) ?_; first | omega | (dsimp only; omega)) | (simp; done) | (refine congrArg some ?_; dsimp only; congr 1; omega) | (simp; omega)) ⟨M.sel (by first | ((repeat (first | with_reducible exact Sel.refl | with_reducible exact Sel.nil | with_reducible exact Del.here | with_reducible apply Del.there | with_reducible apply Sel.cons | with_reducible apply Sel.drop)); done) | (repeat (first | exact Sel.refl | exact Sel.nil | exact Del.here | apply Del.there | apply Sel.cons | apply Sel.drop))), ⟨by dsimp only; omega, q, by dsimp only; rw [List.length_append]; simp; omega⟩⟩ (by first | omega | (dsimp only; omega))
  · obtain rfl : i = ps.length := by omega
    rw [List.take_of_length_le (by simp)] at hok
    refine W.exit ?_
    refine WX.thenExit ?_
    refine WX.thenExit ?_
    refine WX.blockHere ?_
    refine WX.next ?_
    refine W.seq ?_
    refine W.seq ?_
    refine W.region ?_
    refine WL.move rfl rfl ?_
    refine WL.len Try.underlying32 rfl rfl ?_
    refine WL.move rfl rfl ?_
    refine WL.nil ?_
    refine WX.next ?_
    refine W.sub [(6, _), (33, _), (34, _), (35, _)] (.cons rfl (.cons rfl (.cons rfl (.cons rfl .nil)))) ?_
    refine W.block ?_
    refine W.loop (ι := Nat × (Option Addr × Nat × List PlX)) (fun z => [(6, .slice z.2.1 z.2.2.2.length z.2.2.1), (33, .slice Am ms.length cm), (34, .int .i64 (ms.length : Int)), (35, .int .i64 (z.1 : Int))]) (fun zz w => Mem w0 w ((fun z => [Asr.lst placeE z.2.1 z.2.2.1 z.2.2.2, Asr.star (z.2.2.2.map PlX.O)]) zz) ∧ (fun z => z.1 ≤ ms.length ∧ Moves (z.2.2.2.map PlX.key) (ms.drop z.1) qs ∧ Formed (z.2.2.2.map PlX.key) (N : Int)) zz) (fun z => ms.length - z.1) ((0, (Ao, co, out))) (by (repeat' (first | exact envSub.nil | refine envSub.cons ?_ ?_)) <;> first | rfl | (refine congrArg some ?_; refine congrArg (Value.int _) ?_; first | omega | (dsimp only; omega)) | (simp; done) | (refine congrArg some ?_; dsimp only; congr 1; omega) | (simp; omega)) ⟨M.sel (by first | ((repeat (first | with_reducible exact Sel.refl | with_reducible exact Sel.nil | with_reducible exact Del.here | with_reducible apply Del.there | with_reducible apply Sel.cons | with_reducible apply Sel.drop)); done) | (repeat (first | exact Sel.refl | exact Sel.nil | exact Del.here | apply Del.there | apply Sel.cons | apply Sel.drop))), ⟨Nat.zero_le _, by dsimp only; rw [hok]; exact hM, by dsimp only; rw [hok]; exact hF⟩⟩ ?_
    clear M; rintro (⟨j, Ao2, co2, out2⟩) w ⟨M, ⟨hj, hmv, hF2⟩⟩; dsimp only at M hj hmv hF2 ⊢
    refine W.sub [(6, _), (33, _), (34, _), (35, _)] (.cons rfl (.cons rfl (.cons rfl (.cons rfl .nil)))) ?_
    refine W.seq ?_
    refine W.region ?_
    refine WL.lss rfl rfl rfl ?_
    refine WL.nil ?_
    refine WX.next ?_
    refine W.sub [(6, _), (33, _), (34, _), (35, _), (36, _)] (.cons rfl (.cons rfl (.cons rfl (.cons rfl (.cons rfl .nil))))) ?_
    refine W.seq ?_
    refine W.ite rfl (fun c2 => ?_) (fun c2 => ?_)
    · have hjl : j < ms.length := by omega
      obtain ⟨mv, hmv0⟩ : ∃ mv, mv = el ms j := ⟨_, rfl⟩
      have hto2 := hto mv (by rw [hmv0]; exact el_mem hjl)
      have hdrop : ms.drop j = mv :: ms.drop (j + 1) := by
        rw [List.drop_eq_getElem_cons hjl, hmv0]
        simp [el, hjl]
      rw [hdrop] at hmv
      obtain ⟨hmay, hmv2⟩ := hmv
      have hF3 := hF2.doM hmay hto2
      obtain ⟨hat, hfr0, _, hto3, hfm, htn⟩ := hmay
      have hfi : atP (out2.map PlX.key) mv.chunk = out2.findIdx fun p => p.chunk == mv.chunk := by unfold atP; rw [List.findIdx_map]; rfl
      obtain ⟨k, hk⟩ : ∃ k, k = out2.findIdx fun p => p.chunk == mv.chunk := ⟨_, rfl⟩
      rw [hfi, ← hk] at hat hfm htn
      rw [List.length_map] at hat
      rw [el_key hat] at hfm htn
      have hkn : (el out2 k).nodes.length ≤ 12 := by
        have := hF2.len (el out2 k).key (List.mem_map.2 ⟨_, el_mem hat, rfl⟩)
        exact Nat.le_trans this hN
      have hkn2 : (insI mv.to_ (el out2 k).nodes).length ≤ 12 := by
        have h1 := hF3.len (moveP (el (out2.map PlX.key) k) mv) (by
          unfold doM
          rw [hfi, ← hk]
          exact List.mem_iff_getElem.2 ⟨k, by rw [List.length_set, List.length_map]; exact hat, List.getElem_set_self ..⟩)
        have h2 : moveP (el (out2.map PlX.key) k) mv = ⟨(el out2 k).chunk, insI mv.to_ (el out2 k).nodes⟩ := by
          rw [el_key hat]
          unfold moveP PlX.key
          rw [if_neg (by omega)]
        rw [h2] at h1
        exact Nat.le_trans h1 hN
      have hfew2 := (Formed'.of hF2).few
      have hks := (hF2.nodes (el out2 k).key (List.mem_map.2 ⟨_, el_mem hat, rfl⟩)).1
      unfold PlX.key at hfm htn hks
      dsimp only at hfm htn hks
      have hmm : el ms j = mv := hmv0.symm
      refine W.skip ?_
      refine WX.next ?_
      refine W.seq ?_
      refine W.block ?_
      refine W.seq ?_
      refine W.region ?_
      refine WL.idxA Try.underlying32 Try.sizeOf54 rfl rfl (RdL.isSome (E := moveE) (by first | with_reducible assumption | with_reducible exact RdL.mem (by with_reducible assumption) M | exact M.rdL (by first | ((repeat (first | with_reducible exact Has.here | with_reducible refine Has.there ?_)); done) | (repeat (first | exact Has.here | refine Has.there ?_))) | exact RdLH.at (by assumption) (M.sel (by first | ((repeat (first | with_reducible exact Sel.refl | with_reducible exact Sel.nil | with_reducible exact Del.here | with_reducible apply Del.there | with_reducible apply Sel.cons | with_reducible apply Sel.drop)); done) | (repeat (first | exact Sel.refl | exact Sel.nil | exact Del.here | apply Del.there | apply Sel.cons | apply Sel.drop)))) | exact RdL.nil _ _ _) (by omega)) (by omega) (by omega) (by first | exact rfl | exact (Int.toNat_of_nonneg (by omega)).symm) rfl ?_
      refine WL.loadL (E := moveE) (cs := [_, _, _]) Try.isAgg54 Try.sizeOf54 rfl (by first | with_reducible assumption | with_reducible exact RdL.mem (by with_reducible assumption) M | exact M.rdL (by first | ((repeat (first | with_reducible exact Has.here | with_reducible refine Has.there ?_)); done) | (repeat (first | exact Has.here | refine Has.there ?_))) | exact RdLH.at (by assumption) (M.sel (by first | ((repeat (first | with_reducible exact Sel.refl | with_reducible exact Sel.nil | with_reducible exact Del.here | with_reducible apply Del.there | with_reducible apply Sel.cons | with_reducible apply Sel.drop)); done) | (repeat (first | exact Sel.refl | exact Sel.nil | exact Del.here | apply Del.there | apply Sel.cons | apply Sel.drop)))) | exact RdL.nil _ _ _) rfl (by omega) rfl rfl ?_
      refine WL.alloc Try.zeroValue54 M rfl ?_
      intro g11_2 w M
      try simp only [Value.cells] at M
      try simp only [List.toList_toArray] at M
      refine WL.storeWA Try.sizeOf54 rfl rfl (by repeat (first | exact oneNil | refine oneCons rfl ?_)) rfl rfl M (by first | ((repeat (first | with_reducible exact Upd.here | with_reducible apply Upd.there)); done) | (repeat (first | exact Upd.here | apply Upd.there))) ?_
      intro w M
      refine WL.nil ?_
      refine WX.next ?_
      refine W.sub [(6, _), (10, _), (33, _), (34, _), (35, _)] (.cons rfl (.cons rfl (.cons rfl (.cons rfl (.cons rfl .nil))))) ?_
      refine W.seq ?_
      refine W.region ?_
      refine WL.move rfl rfl ?_
      refine WL.makeFunc (vs := [.pointer (some ⟨g11_2, 0, none⟩)]) rfl rfl ?_
      refine WL.call Try.call18 rfl (pIndexF_ok (c := (el ms j).chunk) (M.rdL (by first | ((repeat (first | with_reducible exact Has.here | with_reducible refine Has.there ?_)); done) | (repeat (first | exact Has.here | refine Has.there ?_)))) (rd_one M (by first | ((repeat (first | with_reducible exact Has.here | with_reducible refine Has.there ?_)); done) | (repeat (first | exact Has.here | refine Has.there ?_))) 0 rfl) (by omega)) rfl ?_
      rintro _ w ⟨rfl, m⟩
      replace M := M.call0 m; clear m
      rw [hmm, ← hk, atI_in hat]
      rw [hmm] at M
      refine WL.assign rfl rfl ?_
      refine WL.nil ?_
      refine WX.next ?_
      refine W.sub [(6, _), (10, _), (11, _), (33, _), (34, _), (35, _)] (.cons rfl (.cons rfl (.cons rfl (.cons rfl (.cons rfl (.cons rfl .nil)))))) ?_
      refine W.seq ?_
      refine W.seq ?_
      refine W.region ?_
      refine WL.move rfl rfl ?_
      refine WL.lss rfl rfl rfl ?_
      refine WL.moveIf rfl rfl (fun c3 => ?_) (fun c3 => ?_)
      · exact absurd c3 (by omega)
      · refine WL.on rfl rfl ?_
        refine WL.fieldR (off := 1) Try.underlying54 rfl rfl Try.sizeOf3 rfl rfl rfl ?_
        refine WL.on rfl rfl ?_
        refine WL.loadR Try.isAgg3 rfl M (by first | ((repeat (first | with_reducible exact Has.here | with_reducible refine Has.there ?_)); done) | (repeat (first | exact Has.here | refine Has.there ?_))) rfl rfl ?_
        refine WL.on rfl rfl ?_
        refine WL.lss rfl rfl rfl ?_
        refine WL.pickF rfl rfl rfl ?_
        refine WL.moveIf rfl rfl (fun c4 => ?_) (fun c4 => ?_)
        · exact absurd c4 (by omega)
        · refine WL.on rfl rfl ?_
          refine WL.fieldR (off := 2) Try.underlying54 rfl rfl Try.sizeOf3 rfl rfl rfl ?_
          refine WL.on rfl rfl ?_
          refine WL.loadR Try.isAgg3 rfl M (by first | ((repeat (first | with_reducible exact Has.here | with_reducible refine Has.there ?_)); done) | (repeat (first | exact Has.here | refine Has.there ?_))) rfl rfl ?_
          refine WL.on rfl rfl ?_
          refine WL.lss rfl rfl rfl ?_
          refine WL.pickF rfl rfl rfl ?_
          refine WL.moveIf rfl rfl (fun c5 => ?_) (fun c5 => ?_)
          · exact absurd c5 (by omega)
          · refine WL.on rfl rfl ?_
            refine WL.fieldR (off := 2) Try.underlying54 rfl rfl Try.sizeOf3 rfl rfl rfl ?_
            refine WL.on rfl rfl ?_
            refine WL.loadR Try.isAgg3 rfl M (by first | ((repeat (first | with_reducible exact Has.here | with_reducible refine Has.there ?_)); done) | (repeat (first | exact Has.here | refine Has.there ?_))) rfl rfl ?_
            refine WL.on rfl rfl ?_
            refine WL.geq rfl rfl rfl ?_
            refine WL.pickF rfl rfl rfl ?_
            refine WL.nil ?_
            refine WX.next ?_
            refine W.sub [(6, _), (10, _), (11, _), (33, _), (34, _), (35, _), (58, _)] (.cons rfl (.cons rfl (.cons rfl (.cons rfl (.cons rfl (.cons rfl (.cons rfl .nil))))))) ?_
            refine W.ite rfl (fun c6 => ?_) (fun c6 => ?_)
            · exact absurd c6 (by omega)
            · refine W.skip ?_
              refine WX.next ?_
              refine W.seq ?_
              refine W.region ?_
              refine WL.move rfl rfl ?_
              refine WL.move rfl rfl ?_
              refine WL.idxA Try.underlying24 Try.sizeOf44 rfl rfl (RdL.isSome (E := placeE) (by first | with_reducible assumption | with_reducible exact RdL.mem (by with_reducible assumption) M | exact M.rdL (by first | ((repeat (first | with_reducible exact Has.here | with_reducible refine Has.there ?_)); done) | (repeat (first | exact Has.here | refine Has.there ?_))) | exact RdLH.at (by assumption) (M.sel (by first | ((repeat (first | with_reducible exact Sel.refl | with_reducible exact Sel.nil | with_reducible exact Del.here | with_reducible apply Del.there | with_reducible apply Sel.cons | with_reducible apply Sel.drop)); done) | (repeat (first | exact Sel.refl | exact Sel.nil | exact Del.here | apply Del.there | apply Sel.cons | apply Sel.drop)))) | exact RdL.nil _ _ _) (by omega)) (by omega) (by omega) (by first | exact rfl | exact (Int.toNat_of_nonneg (by omega)).symm) rfl ?_
              refine WL.assign rfl rfl ?_
              refine WL.nil ?_
              refine WX.next ?_
              refine W.sub [(6, _), (10, _), (12, _), (33, _), (34, _), (35, _)] (.cons rfl (.cons rfl (.cons rfl (.cons rfl (.cons rfl (.cons rfl .nil)))))) ?_
              refine W.seq ?_
              refine W.drawM ([Asr.lst placeE Ao2 co2 out2, Asr.row g11_2 54 [.int .i64 mv.chunk, .int .i64 mv.from_, .int .i64 mv.to_]]) (by kernel_rfl) (fun j => [3, 5].contains j) M (by first | ((repeat (first | with_reducible exact Sel.refl | with_reducible exact Sel.nil | with_reducible exact Del.here | with_reducible apply Del.there | with_reducible apply Sel.cons | with_reducible apply Sel.drop)); done) | (repeat (first | exact Sel.refl | exact Sel.nil | exact Del.here | apply Del.there | apply Sel.cons | apply Sel.drop))) ?_
              clear M; intro M
              apply DG.pure_ [0, 1, 2, 4] 4 rfl (by kernel_rfl) (by kernel_rfl)
              · intro w
                refine WL.move rfl rfl ?_
                refine WL.nilCheck rfl rfl ?_
                refine WL.fieldA (off := 1) Try.underlying44 rfl rfl Try.sizeOf22 rfl rfl rfl ?_
                refine WL.fieldR (off := 1) Try.underlying54 rfl rfl Try.sizeOf3 rfl rfl rfl ?_
                exact Chain.end_ rfl
              apply DG.take [3, 5] 2 rfl (by kernel_rfl) (by kernel_rfl) (M.sel (by first | ((repeat (first | with_reducible exact Sel.refl | with_reducible exact Sel.nil | with_reducible exact Del.here | with_reducible apply Del.there | with_reducible apply Sel.cons | with_reducible apply Sel.drop)); done) | (repeat (first | exact Sel.refl | exact Sel.nil | exact Del.here | apply Del.there | apply Sel.cons | apply Sel.drop))))
              · intro w M
                refine WL.loadE (E := placeE) Try.isAgg22 rfl (by first | with_reducible assumption | with_reducible exact RdL.mem (by with_reducible assumption) M | exact M.rdL (by first | ((repeat (first | with_reducible exact Has.here | with_reducible refine Has.there ?_)); done) | (repeat (first | exact Has.here | refine Has.there ?_))) | exact RdLH.at (by assumption) (M.sel (by first | ((repeat (first | with_reducible exact Sel.refl | with_reducible exact Sel.nil | with_reducible exact Del.here | with_reducible apply Del.there | with_reducible apply Sel.cons | with_reducible apply Sel.drop)); done) | (repeat (first | exact Sel.refl | exact Sel.nil | exact Del.here | apply Del.there | apply Sel.cons | apply Sel.drop)))) | exact RdL.nil _ _ _) (by omega) rfl rfl ?_
                refine WL.loadR Try.isAgg3 rfl M (by first | ((repeat (first | with_reducible exact Has.here | with_reducible refine Has.there ?_)); done) | (repeat (first | exact Has.here | refine Has.there ?_))) rfl rfl ?_
                exact Chain.end_ rfl
              refine DG.step 6 1 rfl (by kernel_rfl) ?_
              refine WL.call Try.call20 rfl (sIndex_ok (ownRd (M.starHas (f := PlX.O) (by first | ((repeat (first | with_reducible exact Has.here | with_reducible refine Has.there ?_)); done) | (repeat (first | exact Has.here | refine Has.there ?_))) (el_mem hat))) mv.from_ (by omega)) rfl ?_
              rintro _ w ⟨⟨fr, rfl, hfr⟩, m⟩
              replace M := M.call0 m; clear m
              have hfr2 : 0 ≤ fr := by
                have := hfr.trans (decide_eq_true hfm)
                exact of_decide_eq_true this
              refine DG.go (G := fun j => [3, 5].contains j) (i := 6) (f' := 1) (done := [0, 1, 2, 4, 3, 5]) (fun h => by cases h) ?_
              apply DG.pure_ [7] 0 rfl (by kernel_rfl) (by kernel_rfl)
              · intro w
                refine WL.assign rfl rfl ?_
                exact Chain.end_ rfl
              refine DG.end_ (by kernel_rfl) ?_
              refine WX.next ?_
              refine W.sub [(6, _), (10, _), (12, _), (13, _), (33, _), (34, _), (35, _)] (.cons rfl (.cons rfl (.cons rfl (.cons rfl (.cons rfl (.cons rfl (.cons rfl .nil))))))) ?_
              refine W.seq ?_
              refine W.seq ?_
              refine W.drawM ([Asr.lst placeE Ao2 co2 out2, Asr.row g11_2 54 [.int .i64 mv.chunk, .int .i64 mv.from_, .int .i64 mv.to_]]) (by kernel_rfl) (fun j => [6, 8].contains j) M (by first | ((repeat (first | with_reducible exact Sel.refl | with_reducible exact Sel.nil | with_reducible exact Del.here | with_reducible apply Del.there | with_reducible apply Sel.cons | with_reducible apply Sel.drop)); done) | (repeat (first | exact Sel.refl | exact Sel.nil | exact Del.here | apply Del.there | apply Sel.cons | apply Sel.drop))) ?_
              clear M; intro M
              apply DG.pure_ [0, 1] 9 rfl (by kernel_rfl) (by kernel_rfl)
              · intro w
                refine WL.move rfl rfl ?_
                refine WL.lss rfl rfl rfl ?_
                exact Chain.end_ rfl
              refine DG.knowP (t := 70) rfl (fun c7 => ?_) (fun c7 => ?_)
              · exact absurd c7 (by omega)
              · apply DG.pure_ [2, 3, 4, 5, 7] 4 rfl (by kernel_rfl) (by kernel_rfl)
                · intro w
                  refine WL.move rfl rfl ?_
                  refine WL.on rfl rfl ?_
                  refine WL.move rfl rfl ?_
                  refine WL.on rfl rfl ?_
                  refine WL.nilCheck rfl rfl ?_
                  refine WL.on rfl rfl ?_
                  refine WL.fieldA (off := 1) Try.underlying44 rfl rfl Try.sizeOf22 rfl rfl rfl ?_
                  refine WL.on rfl rfl ?_
                  refine WL.fieldR (off := 2) Try.underlying54 rfl rfl Try.sizeOf3 rfl rfl rfl ?_
                  exact Chain.end_ rfl
                apply DG.take [6, 8] 2 rfl (by kernel_rfl) (by kernel_rfl) (M.sel (by first | ((repeat (first | with_reducible exact Sel.refl | with_reducible exact Sel.nil | with_reducible exact Del.here | with_reducible apply Del.there | with_reducible apply Sel.cons | with_reducible apply Sel.drop)); done) | (repeat (first | exact Sel.refl | exact Sel.nil | exact Del.here | apply Del.there | apply Sel.cons | apply Sel.drop))))
                · intro w M
                  refine WL.on rfl rfl ?_
                  refine WL.loadE (E := placeE) Try.isAgg22 rfl (by first | with_reducible assumption | with_reducible exact RdL.mem (by with_reducible assumption) M | exact M.rdL (by first | ((repeat (first | with_reducible exact Has.here | with_reducible refine Has.there ?_)); done) | (repeat (first | exact Has.here | refine Has.there ?_))) | exact RdLH.at (by assumption) (M.sel (by first | ((repeat (first | with_reducible exact Sel.refl | with_reducible exact Sel.nil | with_reducible exact Del.here | with_reducible apply Del.there | with_reducible apply Sel.cons | with_reducible apply Sel.drop)); done) | (repeat (first | exact Sel.refl | exact Sel.nil | exact Del.here | apply Del.there | apply Sel.cons | apply Sel.drop)))) | exact RdL.nil _ _ _) (by omega) rfl rfl ?_
                  refine WL.on rfl rfl ?_
                  refine WL.loadR Try.isAgg3 rfl M (by first | ((repeat (first | with_reducible exact Has.here | with_reducible refine Has.there ?_)); done) | (repeat (first | exact Has.here | refine Has.there ?_))) rfl rfl ?_
                  exact Chain.end_ rfl
                refine DG.step 9 1 rfl (by kernel_rfl) ?_
                refine WL.on rfl rfl ?_
                refine WL.call Try.call21 rfl (sContains_ok (ownRd (M.starHas (f := PlX.O) (by first | ((repeat (first | with_reducible exact Has.here | with_reducible refine Has.there ?_)); done) | (repeat (first | exact Has.here | refine Has.there ?_))) (el_mem hat))) mv.to_ (by omega)) rfl ?_
                rintro _ w ⟨rfl, m⟩
                replace M := M.call0 m; clear m
                refine DG.go (G := fun j => [6, 8].contains j) (i := 9) (f' := 1) (done := [0, 1, 2, 3, 4, 5, 7, 6, 8]) (fun h => by cases h) ?_
                apply DG.pure_ [10] 0 rfl (by kernel_rfl) (by kernel_rfl)
                · intro w
                  refine WL.pickF rfl rfl rfl ?_
                  exact Chain.end_ rfl
                refine DG.end_ (by kernel_rfl) ?_
                refine WX.next ?_
                refine W.sub [(6, _), (10, _), (12, _), (13, _), (33, _), (34, _), (35, _), (79, _)] (.cons rfl (.cons rfl (.cons rfl (.cons rfl (.cons rfl (.cons rfl (.cons rfl (.cons rfl .nil)))))))) ?_
                refine W.ite rfl (fun c8 => ?_) (fun c8 => ?_)
                · exact absurd c8 htn
                · refine W.skip ?_
                  refine WX.next ?_
                  refine W.seq ?_
                  refine W.seq ?_
                  refine W.region ?_
                  refine WL.fieldR (off := 2) Try.underlying54 rfl rfl Try.sizeOf3 rfl rfl rfl ?_
                  refine WL.loadR Try.isAgg3 rfl M (by first | ((repeat (first | with_reducible exact Has.here | with_reducible refine Has.there ?_)); done) | (repeat (first | exact Has.here | refine Has.there ?_))) rfl rfl ?_
                  refine WL.lss rfl rfl rfl ?_
                  refine WL.nil ?_
                  refine WX.next ?_
                  refine W.sub [(6, _), (10, _), (12, _), (13, _), (33, _), (34, _), (35, _), (82, _)] (.cons rfl (.cons rfl (.cons rfl (.cons rfl (.cons rfl (.cons rfl (.cons rfl (.cons rfl .nil)))))))) ?_
                  refine W.ite rfl (fun c9 => ?_) (fun c9 => ?_)
                  · exact absurd c9 (by omega)
                  · refine W.skip ?_
                    refine WX.next ?_
                    refine W.seq ?_
                    have M1 := (M.sel (K := [Asr.star (out2.map PlX.O), Asr.lst placeE Ao2 co2 out2, Asr.row g11_2 54 [.int .i64 mv.chunk, .int .i64 mv.from_, .int .i64 mv.to_]]) (by first | ((repeat (first | with_reducible exact Sel.refl | with_reducible exact Sel.nil | with_reducible exact Del.here | with_reducible apply Del.there | with_reducible apply Sel.cons | with_reducible apply Sel.drop)); done) | (repeat (first | exact Sel.refl | exact Sel.nil | exact Del.here | apply Del.there | apply Sel.cons | apply Sel.drop))))
                    replace M := M1.starAt k hat
                    unfold PlX.O at M
                    refine W.drawM ([Asr.lst placeE Ao2 co2 out2, Asr.row g11_2 54 [.int .i64 mv.chunk, .int .i64 mv.from_, .int .i64 mv.to_]]) (by kernel_rfl) (fun j => [4, 6, 7].contains j) M (by first | ((repeat (first | with_reducible exact Sel.refl | with_reducible exact Sel.nil | with_reducible exact Del.here | with_reducible apply Del.there | with_reducible apply Sel.cons | with_reducible apply Sel.drop)); done) | (repeat (first | exact Sel.refl | exact Sel.nil | exact Del.here | apply Del.there | apply Sel.cons | apply Sel.drop))) ?_
                    clear M; intro M
                    apply DG.pure_ [0, 1, 2, 3, 5] 7 rfl (by kernel_rfl) (by kernel_rfl)
                    · intro w
                      refine WL.move rfl rfl ?_
                      refine WL.move rfl rfl ?_
                      refine WL.nilCheck rfl rfl ?_
                      refine WL.fieldA (off := 1) Try.underlying44 rfl rfl Try.sizeOf22 rfl rfl rfl ?_
                      refine WL.fieldR (off := 2) Try.underlying54 rfl rfl Try.sizeOf3 rfl rfl rfl ?_
                      exact Chain.end_ rfl
                    apply DG.take [4, 6] 5 rfl (by kernel_rfl) (by kernel_rfl) (M.sel (by first | ((repeat (first | with_reducible exact Sel.refl | with_reducible exact Sel.nil | with_reducible exact Del.here | with_reducible apply Del.there | with_reducible apply Sel.cons | with_reducible apply Sel.drop)); done) | (repeat (first | exact Sel.refl | exact Sel.nil | exact Del.here | apply Del.there | apply Sel.cons | apply Sel.drop))))
                    · intro w M
                      refine WL.loadE (E := placeE) Try.isAgg22 rfl (by first | with_reducible assumption | with_reducible exact RdL.mem (by with_reducible assumption) M | exact M.rdL (by first | ((repeat (first | with_reducible exact Has.here | with_reducible refine Has.there ?_)); done) | (repeat (first | exact Has.here | refine Has.there ?_))) | exact RdLH.at (by assumption) (M.sel (by first | ((repeat (first | with_reducible exact Sel.refl | with_reducible exact Sel.nil | with_reducible exact Del.here | with_reducible apply Del.there | with_reducible apply Sel.cons | with_reducible apply Sel.drop)); done) | (repeat (first | exact Sel.refl | exact Sel.nil | exact Del.here | apply Del.there | apply Sel.cons | apply Sel.drop)))) | exact RdL.nil _ _ _) (by omega) rfl rfl ?_
                      refine WL.loadR Try.isAgg3 rfl M (by first | ((repeat (first | with_reducible exact Has.here | with_reducible refine Has.there ?_)); done) | (repeat (first | exact Has.here | refine Has.there ?_))) rfl rfl ?_
                      exact Chain.end_ rfl
                    refine DG.step 7 4 rfl (by kernel_rfl) ?_
                    refine WL.buildL (E := intE) (l := [mv.to_]) Try.elem3 M rfl rfl rfl rfl rfl rfl ?_
                    intro g21_7 w M
                    refine DG.go (G := fun j => [4, 6, 7].contains j) (i := 7) (f' := 4) (done := [0, 1, 2, 3, 5, 4, 6]) (fun _ => M.sel (by first | ((repeat (first | with_reducible exact Sel.refl | with_reducible exact Sel.nil | with_reducible exact Del.here | with_reducible apply Del.there | with_reducible apply Sel.cons | with_reducible apply Sel.drop)); done) | (repeat (first | exact Sel.refl | exact Sel.nil | exact Del.here | apply Del.there | apply Sel.cons | apply Sel.drop)))) ?_
                    refine DG.step 8 3 rfl (by kernel_rfl) ?_
                    refine WL.appendL (E := intE) Try.elem3 rfl rfl M (by first | ((repeat (first | with_reducible exact Del.here | with_reducible apply Del.there)); done) | (repeat (first | exact Del.here | apply Del.there))) (by first | with_reducible assumption | with_reducible exact RdL.mem (by with_reducible assumption) M | exact M.rdL (by first | ((repeat (first | with_reducible exact Has.here | with_reducible refine Has.there ?_)); done) | (repeat (first | exact Has.here | refine Has.there ?_))) | exact RdLH.at (by assumption) (M.sel (by first | ((repeat (first | with_reducible exact Sel.refl | with_reducible exact Sel.nil | with_reducible exact Del.here | with_reducible apply Del.there | with_reducible apply Sel.cons | with_reducible apply Sel.drop)); done) | (repeat (first | exact Sel.refl | exact Sel.nil | exact Del.here | apply Del.there | apply Sel.cons | apply Sel.drop)))) | exact RdL.nil _ _ _) rfl rfl (by first | omega | (simp; done) | (simp; omega)) (by first | (simp only [maxLen]; omega) | (simp [maxLen]; done) | (simp [maxLen]; omega)) rfl ?_
                    intro A21_8 cap21_8 w M
                    refine DG.go (G := fun j => [4, 6, 7].contains j) (i := 8) (f' := 3) (done := [0, 1, 2, 3, 5, 4, 6, 7]) (fun h => by cases h) ?_
                    apply DG.pure_ [9, 10] 1 rfl (by kernel_rfl) (by kernel_rfl)
                    · intro w
                      refine WL.nilCheck rfl rfl ?_
                      refine WL.fieldA (off := 1) Try.underlying44 rfl rfl Try.sizeOf22 rfl rfl rfl ?_
                      exact Chain.end_ rfl
                    refine DG.step 11 0 rfl (by kernel_rfl) ?_
                    refine WL.storeE (E := placeE) (x' := (⟨(el out2 k).chunk, A21_8, cap21_8, (el out2 k).nodes ++ [mv.to_]⟩ : PlX)) Try.sizeOf22 rfl rfl rfl M (by first | ((repeat (first | with_reducible exact Has.here | with_reducible refine Has.there ?_)); done) | (repeat (first | exact Has.here | refine Has.there ?_))) (by omega) (by repeat (first | exact SetAt.zero | apply SetAt.succ)) (by first | ((repeat (first | with_reducible exact Upd.here | with_reducible apply Upd.there)); done) | (repeat (first | exact Upd.here | apply Upd.there))) ?_
                    intro w M
                    refine DG.go (G := fun j => [4, 6, 7].contains j) (i := 11) (f' := 0) (done := [0, 1, 2, 3, 5, 4, 6, 7, 8, 9, 10]) (fun h => by cases h) ?_
                    refine DG.end_ (by kernel_rfl) ?_
                    refine WX.next ?_
                    refine W.sub [(6, _), (12, _), (33, _), (34, _), (35, _)] (.cons rfl (.cons rfl (.cons rfl (.cons rfl (.cons rfl .nil))))) ?_
                    have hel : el (out2.set k (⟨(el out2 k).chunk, A21_8, cap21_8, (el out2 k).nodes ++ [mv.to_]⟩ : PlX)) k = (⟨(el out2 k).chunk, A21_8, cap21_8, (el out2 k).nodes ++ [mv.to_]⟩ : PlX) := by rw [el_set _ _ _ _ hat, if_pos rfl]
                    have hls0 : (out2.set k (⟨(el out2 k).chunk, A21_8, cap21_8, (el out2 k).nodes ++ [mv.to_]⟩ : PlX)).length = out2.length := List.length_set
                    refine W.region ?_
                    refine WL.move rfl rfl ?_
                    refine WL.nilCheck rfl rfl ?_
                    refine WL.fieldA (off := 1) Try.underlying44 rfl rfl Try.sizeOf22 rfl rfl rfl ?_
                    refine WL.loadE (E := placeE) Try.isAgg22 rfl (by first | with_reducible assumption | with_reducible exact RdL.mem (by with_reducible assumption) M | exact M.rdL (by first | ((repeat (first | with_reducible exact Has.here | with_reducible refine Has.there ?_)); done) | (repeat (first | exact Has.here | refine Has.there ?_))) | exact RdLH.at (by assumption) (M.sel (by first | ((repeat (first | with_reducible exact Sel.refl | with_reducible exact Sel.nil | with_reducible exact Del.here | with_reducible apply Del.there | with_reducible apply Sel.cons | with_reducible apply Sel.drop)); done) | (repeat (first | exact Sel.refl | exact Sel.nil | exact Del.here | apply Del.there | apply Sel.cons | apply Sel.drop)))) | exact RdL.nil _ _ _) (by omega) rfl rfl ?_
                    rw [hel]
                    refine WL.call Try.call16 rfl (sortO_ok (l := (el out2 k).nodes ++ [mv.to_]) (by rw [← (insI_perm mv.to_ _).trans ((List.perm_append_comm (l₁ := [mv.to_]))) |>.length_eq]; exact hkn2) (by rw [List.nodup_append]; exact ⟨hks.imp (fun h => by omega), by simp, fun x hx y hy e => htn (by have e2 : y = mv.to_ := (by simpa using hy); rw [← e2, ← e]; exact hx)⟩) w0 w _ _ M (by first | ((repeat (first | with_reducible exact Del.here | with_reducible apply Del.there)); done) | (repeat (first | exact Del.here | apply Del.there)))) rfl ?_
                    rintro _ w ⟨m, hm1, hm2, hm3, M⟩
                    refine WL.nil ?_
                    refine WX.blockNormal ?_
                    refine WX.next ?_
                    refine W.sub [(6, _), (33, _), (34, _), (35, _)] (.cons rfl (.cons rfl (.cons rfl (.cons rfl .nil)))) ?_
                    refine W.region ?_
                    refine WL.add rfl rfl (by first | exact wI64 (by omega) | rfl) rfl ?_
                    refine WL.move rfl rfl ?_
                    refine WL.nil ?_
                    skip
                    have hmi : m = insI mv.to_ (el out2 k).nodes := sorted_one (hm2.trans ((List.perm_append_comm (l₂ := [mv.to_])).trans (insI_perm mv.to_ _).symm)) hm3 (insI_sorted hks htn)
                    have hlst : Asr.lst placeE Ao2 co2 (out2.set k (⟨(el out2 k).chunk, A21_8, cap21_8, (el out2 k).nodes ++ [mv.to_]⟩ : PlX)) = Asr.lst placeE Ao2 co2 (out2.set k (⟨(el out2 k).chunk, A21_8, cap21_8, m⟩ : PlX)) := by
                      unfold Asr.lst
                      rw [Enc.all_set _ _ _ _ hat, Enc.all_set _ _ _ _ hat, List.length_set, List.length_set]
                      have hcs : placeE.cells (⟨(el out2 k).chunk, A21_8, cap21_8, (el out2 k).nodes ++ [mv.to_]⟩ : PlX) = placeE.cells (⟨(el out2 k).chunk, A21_8, cap21_8, m⟩ : PlX) := by
                        unfold placeE
                        dsimp only
                        rw [hm1]
                      rw [hcs]
                    rw [hlst] at M
                    have q : (out2.set k (⟨(el out2 k).chunk, A21_8, cap21_8, m⟩ : PlX)).map PlX.key = doM (out2.map PlX.key) mv := by
                      unfold doM
                      rw [hfi, ← hk, List.map_set, el_key hat]
                      congr 1
                      unfold moveP PlX.key
                      rw [if_neg (by omega), ← hmi]
                    have M2 := M.sel (K := [Asr.lst intE A21_8 cap21_8 m, Asr.star ((out2.eraseIdx k).map PlX.O), Asr.lst placeE Ao2 co2 (out2.set k (⟨(el out2 k).chunk, A21_8, cap21_8, m⟩ : PlX))]) (by first | ((repeat (first | with_reducible exact Sel.refl | with_reducible exact Sel.nil | with_reducible exact Del.here | with_reducible apply Del.there | with_reducible apply Sel.cons | with_reducible apply Sel.drop)); done) | (repeat (first | exact Sel.refl | exact Sel.nil | exact Del.here | apply Del.there | apply Sel.cons | apply Sel.drop)))
                    have M3 := Mem.starSet (f := PlX.O) (x := (⟨(el out2 k).chunk, A21_8, cap21_8, m⟩ : PlX)) k hat M2
                    replace M := M3
                    have hls : (out2.set k (⟨(el out2 k).chunk, A21_8, cap21_8, m⟩ : PlX)).length = out2.length := List.length_set
                    rw [← hls]
                    refine WX.round ((j + 1, (Ao2, co2, out2.set k (⟨(el out2 k).chunk, A21_8, cap21_8, m⟩ : PlX)))) (by (repeat' (first | exact envSub.nil | refine envSub.cons ?_ ?_)) <;> first | rfl | (refine congrArg some ?_; refine congrArg (Value.int _) ?_; first | omega | (dsimp only; omega)) | (simp; done) | (refine congrArg some ?_; dsimp only; congr 1; omega) | (simp; omega)) ⟨M.sel (by first | ((repeat (first | with_reducible exact Sel.refl | with_reducible exact Sel.nil | with_reducible exact Del.here | with_reducible apply Del.there | with_reducible apply Sel.cons | with_reducible apply Sel.drop)); done) | (repeat (first | exact Sel.refl | exact Sel.nil | exact Del.here | apply Del.there | apply Sel.cons | apply Sel.drop))), ⟨by dsimp only; omega, by dsimp only; rw [q]; exact hmv2, by dsimp only; rw [q]; exact hF3⟩⟩ (by first | omega | (dsimp only; omega))
    · refine W.exit ?_
      refine WX.thenExit ?_
      refine WX.thenExit ?_
      refine WX.blockHere ?_
      refine WX.next ?_
      refine W.seq ?_
      refine W.region ?_
      refine WL.move rfl rfl ?_
      refine WL.assign rfl rfl ?_
      refine WL.assign rfl rfl ?_
      refine WL.nil ?_
      refine WX.next ?_
      refine W.sub [(4, _), (5, _)] (.cons rfl (.cons rfl .nil)) ?_
      refine W.ret ?_
      refine WX.ret2 rfl rfl rfl ?_
      obtain rfl : j = ms.length := by omega
      rw [List.drop_length] at hmv
      exact ⟨Ao2, co2, out2, rfl, hmv, M.sel (by first | ((repeat (first | with_reducible exact Sel.refl | with_reducible exact Sel.nil | with_reducible exact Del.here | with_reducible apply Del.there | with_reducible apply Sel.cons | with_reducible apply Sel.drop)); done) | (repeat (first | exact Sel.refl | exact Sel.nil | exact Del.here | apply Del.there | apply Sel.cons | apply Sel.drop)))⟩
end Go.Proofs.Ytkdkdaljgoibaaa
