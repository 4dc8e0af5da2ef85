/-
  Walk: of two flows in which something waits all the time (seawalllaw21.DrrFair).
-/
import Derived.Test.YtdhmopmfnnlhcaaKnown21
import Derived.Test.YtdhmopmfnnlhcaaDrrLaw3
namespace Go.Proofs.Ytdhmopmfnnlhcaa
open Go Go.RowKit

/-- Numbers in an array of eight. -/
def arrE : Enc Int := ⟨54, 1, fun z => [.int .i64 z], fun _ => rfl, (fun a v hv => by
  rw [List.mem_singleton] at hv
  subst hv
  rfl), by decide⟩
/-- Jobs wait; no turn began. -/
structure FairP (s : Sd) (sh : List Int) (c : Nat → Nat) (t : Nat) (most : Int) : Prop where
  ok : Ok s
  len : s.fl.length = sh.length
  share : ∀ y, y < sh.length → (el s.fl y).share = el sh y
  cr : ∀ y, y < sh.length → (el s.fl y).credit = 0
  cnt : ∀ y, y < sh.length → (el s.fl y).jobs.length = c y
  cost : ∀ y, y < sh.length → ∀ j ∈ (el s.fl y).jobs, j.cost ≤ most
  n : nJ s.fl = t
theorem FairP.start {sh : List Int} (h : ¬ badL sh) : FairP (newS sh) sh (fun _ => 0) 0 1 := by
  have hel : ∀ k, k < sh.length → el (newS sh).fl k = ⟨el sh k, 0, []⟩ := by
    intro k hk
    unfold newS
    simp [el, hk]
  exact ⟨(newS_ok h).1, by unfold newS; simp, fun y hy => by rw [hel y hy], fun y hy => by rw [hel y hy], fun y hy => by rw [hel y hy]; rfl, (fun y hy j hj => by rw [hel y hy] at hj; cases hj), (newS_ok h).2⟩
theorem FairP.push {s : Sd} {sh : List Int} {c : Nat → Nat} {t : Nat} {most : Int} (h : FairP s sh c t most) (ht : t < 1000) {j : JX} {k : Nat} (hf : j.flow = (k : Int)) (hk : k < sh.length) (hc : 1 ≤ j.cost ∧ j.cost ≤ 120) :
    pushE s j = 0 ∧ FairP (pushS s j) sh (fun y => if y = k then c y + 1 else c y) (t + 1) (max most j.cost) := by
  obtain ⟨h1, h2, h3, h4, h5⟩ := push_says (s := s) hf (by rw [h.len]; exact hk) (by omega) (by rw [h.n]; omega)
  refine ⟨h1, h.ok.push j, by rw [h3, h.len], ?_, ?_, ?_, ?_, by rw [h5, h.n]⟩
  · intro y hy
    rw [h2]
    split
    · rename_i e; subst e; exact h.share _ hy
    · exact h.share y hy
  · intro y hy
    rw [h2]
    split
    · rename_i e; subst e; exact h.cr _ hy
    · exact h.cr y hy
  · intro y hy
    rw [h2]
    by_cases e : k = y
    · subst e
      rw [if_pos rfl, if_pos rfl]
      dsimp only
      rw [List.length_append, h.cnt _ hy]
      rfl
    · rw [if_neg e, if_neg (fun e2 => e e2.symm)]
      exact h.cnt y hy
  · intro y hy x hx
    rw [h2] at hx
    split at hx
    · rename_i e
      subst e
      rcases List.mem_append.1 hx with hx | hx
      · have := h.cost _ hy x hx
        omega
      · rw [List.mem_singleton] at hx
        subst hx
        omega
    · have := h.cost y hy x hx
      omega
theorem FairP.congr {s : Sd} {sh : List Int} {c c' : Nat → Nat} {t t' : Nat} {m m' : Int} (h : FairP s sh c t m) (hc : ∀ y, y < sh.length → c y = c' y) (ht : t = t') (hm : m = m') : FairP s sh c' t' m' := by
  subst ht hm
  exact ⟨h.ok, h.len, h.share, h.cr, fun y hy => by rw [h.cnt y hy, hc y hy], h.cost, h.n⟩
/-- Something waits in each flow. -/
structure FairQ (s : Sd) (sh : List Int) (G : List Int) (i : Nat) (most : Int) : Prop where
  turns : ∃ b got, Turns s b got ∧ ∀ y, y < sh.length → el G y = (got y : Int)
  caps : Caps s most
  len : s.fl.length = sh.length
  share : ∀ y, y < sh.length → (el s.fl y).share = el sh y
  jobs : ∀ y, y < sh.length → (el s.fl y).jobs ≠ []
  gl : G.length = 8
  g : ∀ y, y < 8 → 0 ≤ el G y ∧ el G y ≤ 120 * i
theorem FairP.go {s : Sd} {sh : List Int} {c : Nat → Nat} {t : Nat} {most : Int} (h : FairP s sh c t most) (hm : 0 ≤ most) (hc : ∀ y, y < sh.length → c y ≠ 0) : FairQ s sh (List.replicate 8 0) 0 most := by
  refine ⟨⟨_, _, Turns.start h.ok (fun k hk => h.cr k (by rw [← h.len]; exact hk)), ?_⟩, ⟨fun k hk j hj => h.cost k (by rw [← h.len]; exact hk) j hj, fun k hk => ?_⟩, h.len, h.share, ?_, by simp, ?_⟩
  · intro y hy
    have : (el (List.replicate 8 (0 : Int)) y) = 0 := by
      unfold el
      rw [List.getElem?_replicate]
      split <;> rfl
    rw [this]
    rfl
  · have := h.ok.share _ (el_mem hk)
    rw [h.cr k (by rw [← h.len]; exact hk)]
    omega
  · intro y hy h0
    have := h.cnt y hy
    rw [h0] at this
    exact hc y hy this.symm
  · intro y hy
    have : (el (List.replicate 8 (0 : Int)) y) = 0 := by
      unfold el
      rw [List.getElem?_replicate]
      split <;> rfl
    rw [this]
    omega
theorem FairQ.n {s : Sd} {sh G : List Int} {i : Nat} {most : Int} (h : FairQ s sh G i most) (hs : 1 ≤ sh.length) : nJ s.fl ≠ 0 := nJ_ne 0 (by rw [h.len]; omega) (h.jobs 0 (by omega))
theorem FairQ.pop {s : Sd} {sh G : List Int} {i : Nat} {most : Int} (h : FairQ s sh G i most) (hm : 1 ≤ most ∧ most ≤ 120) (hs : 1 ≤ sh.length ∧ sh.length ≤ 8) {k : Nat} {js : List JX} (hp : Popped s k js) (hjs : js ≠ []) : FairQ (popS s) sh (G.set k (el G k + (popJ s).cost)) (i + 1) most := by
  obtain ⟨⟨b, got, ht, hg⟩, hc, hl, hsh, hj, hgl, hgb⟩ := h
  have hn : nJ s.fl ≠ 0 := nJ_ne 0 (by rw [hl]; omega) (hj 0 (by omega))
  obtain ⟨b', _, ht'⟩ := ht.pop hn hp
  have hk : k < sh.length := by rw [← hl]; exact hp.lt
  have hco : (popJ s).cost ≤ most := hc.cost k hp.lt _ (by rw [hp.was]; simp)
  have hco1 := hp.cost
  refine ⟨⟨b', _, ht', ?_⟩, hc.pop (by omega) ht.ok hn, by rw [hp.len, hl], fun y hy => by rw [hp.share]; exact hsh y hy, ?_, by rw [List.length_set]; exact hgl, ?_⟩
  · intro y hy
    rw [el_set _ _ _ _ (by omega)]
    by_cases e : k = y
    · subst e
      rw [if_pos rfl]
      try dsimp only
      rw [if_pos rfl, hg _ hy]
      omega
    · rw [if_neg e]
      try dsimp only
      rw [if_neg (fun e2 => e e2.symm)]
      exact hg y hy
  · intro y hy
    by_cases e : y = k
    · subst e
      rw [hp.now]
      exact hjs
    · rw [hp.rest y e]
      exact hj y hy
  · intro y hy
    rw [el_set _ _ _ _ (by omega)]
    split
    · rename_i e
      subst e
      have := hgb _ hy
      omega
    · have := hgb y hy
      omega
theorem FairQ.fair {s : Sd} {sh G : List Int} {i : Nat} {most : Int} (h : FairQ s sh G i most) (hm : 0 ≤ most) {x y : Nat} (hx : x < sh.length) (hy : y < sh.length) :
    el G x * el sh y - el G y * el sh x ≤ el sh x * el sh y + most * el sh y + most * el sh x := by
  obtain ⟨⟨b, got, ht, hg⟩, hc, hl, hsh, hj, hgl, hgb⟩ := h
  have := ht.fair hc hm (x := x) (y := y) (by omega) (by omega) (hj x hx) (hj y hy)
  rw [hsh x hx, hsh y hy] at this
  rw [hg x hx, hg y hy]
  exact this
theorem mul_bd {x y X Y : Int} (h1 : 0 ≤ x) (h2 : x ≤ X) (h3 : 0 ≤ y) (h4 : y ≤ Y) : 0 ≤ x * y ∧ x * y ≤ X * Y :=
  ⟨Int.mul_nonneg h1 h3, Int.mul_le_mul h2 h4 h3 (by omega)⟩
theorem schedL_el (l : List Int) {y : Nat} (hy : y < (schedL l).length) : 1 ≤ el (schedL l) y ∧ el (schedL l) y ≤ 50 := (schedL_ok l).2.2 _ (el_mem hy)

set_option maxRecDepth 10000 in
set_option maxHeartbeats 4000000 in
theorem DrrFair_ok (A0 : Option Addr) (k0 : Nat) (l0 : List Int) (A1 : Option Addr) (k1 : Nat) (l : List JX) (pops : Int) (w0 : World) (h0 : RdL w0 intE A0 k0 l0) (h1 : RdL w0 jobE A1 k1 l) :
    Fn Try.prog 8 [.slice A0 l0.length k0, .slice A1 l.length k1, .int .i64 pops] w0 fun v w' => v = .bool true ∧ Mem w0 w' [] := by
  have M := Mem.refl w0
  obtain ⟨w, hw⟩ : ∃ w, w = w0 := ⟨w0, rfl⟩
  refine Fn.enter Try.func8 rfl Try.ntmps8 rfl ?_
  refine W.sub [(0, _), (1, _), (2, _)] (.cons rfl (.cons rfl (.cons rfl .nil))) ?_
  refine W.seq ?_
  refine W.region ?_
  refine WL.assign rfl rfl ?_
  refine WL.nil ?_
  refine WX.next ?_
  refine W.sub [(0, _), (1, _), (2, _)] (.cons rfl (.cons rfl (.cons rfl .nil))) ?_
  refine W.seq ?_
  refine W.region ?_
  refine WL.move rfl rfl ?_
  refine WL.call Try.call10 rfl (sched_ok (h0.mem M)) rfl ?_
  rintro _ w ⟨x, B, cB, rfl, hxs, hxo, m⟩
  replace M := M.callN m; clear m
  rw [List.append_nil] at M
  have hS := schedL_ok l0
  have hSe := @schedL_el l0
  have hP0 := FairP.start (schedL_good l0)
  rw [← hxs] at hP0
  generalize schedL l0 = sh at M hS hSe hP0 hxs ⊢
  refine WL.move rfl rfl ?_
  refine WL.extractL rfl rfl rfl ?_
  refine WL.extractL rfl rfl rfl ?_
  refine WL.assign rfl rfl ?_
  refine WL.assign rfl rfl ?_
  refine WL.nil ?_
  refine WX.next ?_
  refine W.sub [(1, _), (2, _), (7, _), (8, _)] (.cons rfl (.cons rfl (.cons rfl (.cons rfl .nil)))) ?_
  refine W.seq ?_
  refine W.seq ?_
  refine W.region ?_
  refine WL.move rfl rfl ?_
  refine WL.eqNilF Try.underlying24 rfl rfl rfl ?_
  refine WL.nil ?_
  refine WX.next ?_
  refine W.sub [(1, _), (2, _), (7, _), (8, _), (25, _)] (.cons rfl (.cons rfl (.cons rfl (.cons rfl (.cons rfl .nil))))) ?_
  refine W.condF rfl ?_
  refine W.skip ?_
  refine WX.next ?_
  refine W.seq ?_
  refine W.region ?_
  refine WL.alloc Try.zeroValue54 M rfl ?_
  intro g4_0 w M
  try simp only [Value.cells] at M
  try simp only [List.toList_toArray] at M
  refine WL.nil ?_
  refine WX.next ?_
  refine W.sub [(1, _), (2, _), (7, _), (8, _), (9, _)] (.cons rfl (.cons rfl (.cons rfl (.cons rfl (.cons rfl .nil))))) ?_
  refine W.seq ?_
  have M4 : Mem w0 w (Asr.lst arrE (some ⟨g4_0, 0, none⟩) 8 (List.replicate 8 0) :: (x.L ++ [Asr.lst intE B cB sh])) := Mem.rowOwn (vs := arrE.all (List.replicate 8 0)) M [] rfl rfl rfl (by simp [maxLen]) (Nat.le_refl _)
  replace M := M4
  refine W.region ?_
  refine WL.assign rfl rfl ?_
  refine WL.nil ?_
  refine WX.next ?_
  refine W.sub [(1, _), (2, _), (7, _), (8, _), (9, _), (10, _)] (.cons rfl (.cons rfl (.cons rfl (.cons rfl (.cons rfl (.cons rfl .nil)))))) ?_
  refine W.seq ?_
  refine W.seq ?_
  refine W.region ?_
  refine WL.assign rfl rfl ?_
  refine WL.nil ?_
  refine WX.next ?_
  refine W.sub [(1, _), (2, _), (7, _), (8, _), (9, _), (10, _), (11, _)] (.cons rfl (.cons rfl (.cons rfl (.cons rfl (.cons rfl (.cons rfl (.cons rfl .nil))))))) ?_
  refine W.block ?_
  refine W.loop (ι := Nat × SdX × Int) (fun z => [(1, .slice A1 l.length k1), (2, .int .i64 pops), (7, .pointer (some ⟨z.2.1.g, 0, none⟩)), (8, .slice B sh.length cB), (9, .pointer (some ⟨g4_0, 0, none⟩)), (10, .int .i64 z.2.2), (11, .int .i64 (z.1 : Int))]) (fun zz w => Mem w0 w ((fun z => Asr.lst arrE (some ⟨g4_0, 0, none⟩) 8 (List.replicate 8 0) :: (z.2.1.L ++ [Asr.lst intE B cB sh])) zz) ∧ (fun z => z.1 ≤ sh.length ∧ z.2.1.ok ∧ FairP z.2.1.s sh (fun y => if y < z.1 then 60 else 0) (60 * z.1) z.2.2 ∧ 1 ≤ z.2.2 ∧ z.2.2 ≤ 120) zz) (fun z => sh.length - z.1) ((0, x, 1)) (by (repeat' (first | exact envSub.nil | refine envSub.cons ?_ ?_)) <;> first | rfl | (refine congrArg some ?_; refine congrArg (Value.int _) ?_; first | omega | (dsimp only; omega)) | (simp; done) | (refine congrArg some ?_; dsimp only; congr 1; omega) | (simp; omega)) ⟨M.sel (by first | ((repeat (first | with_reducible exact Sel.refl | with_reducible exact Sel.nil | with_reducible exact Del.here | with_reducible apply Del.there | with_reducible apply Sel.cons | with_reducible apply Sel.drop)); done) | (repeat (first | exact Sel.refl | exact Sel.nil | exact Del.here | apply Del.there | apply Sel.cons | apply Sel.drop))), ⟨by simp, hxo, hP0.congr (fun y _ => by simp) rfl rfl, by simp, by simp⟩⟩ ?_
  clear M; rintro (⟨k, x, most⟩) w ⟨M, ⟨hk, hxo, hP, hm1, hm2⟩⟩; dsimp only at M hk hxo hP hm1 hm2 ⊢
  refine W.sub [(1, _), (2, _), (7, _), (8, _), (9, _), (10, _), (11, _)] (.cons rfl (.cons rfl (.cons rfl (.cons rfl (.cons rfl (.cons rfl (.cons rfl .nil))))))) ?_
  refine W.seq ?_
  refine W.seq ?_
  refine W.region ?_
  refine WL.move rfl rfl ?_
  refine WL.move rfl rfl ?_
  refine WL.len Try.underlying22 rfl rfl ?_
  refine WL.lss rfl rfl rfl ?_
  refine WL.nil ?_
  refine WX.next ?_
  refine W.sub [(1, _), (2, _), (7, _), (8, _), (9, _), (10, _), (11, _), (29, _)] (.cons rfl (.cons rfl (.cons rfl (.cons rfl (.cons rfl (.cons rfl (.cons rfl (.cons rfl .nil)))))))) ?_
  refine W.ite rfl (fun c1 => ?_) (fun c1 => ?_)
  · have hPk : FairP x.s sh (fun y => if y < k then 60 else if y = k then 0 else 0) (60 * k + 0) most := hP.congr (fun y _ => by by_cases h : y < k <;> by_cases h2 : y = k <;> simp [h, h2]) rfl rfl
    refine W.skip ?_
    refine WX.next ?_
    refine W.seq ?_
    refine W.block ?_
    refine W.seq ?_
    refine W.region ?_
    refine WL.assign rfl rfl ?_
    refine WL.nil ?_
    refine WX.next ?_
    refine W.sub [(1, _), (2, _), (7, _), (8, _), (9, _), (10, _), (11, _), (12, _)] (.cons rfl (.cons rfl (.cons rfl (.cons rfl (.cons rfl (.cons rfl (.cons rfl (.cons rfl .nil)))))))) ?_
    refine W.block ?_
    refine W.loop (ι := Nat × SdX × Int) (fun z => [(1, .slice A1 l.length k1), (2, .int .i64 pops), (7, .pointer (some ⟨z.2.1.g, 0, none⟩)), (8, .slice B sh.length cB), (9, .pointer (some ⟨g4_0, 0, none⟩)), (10, .int .i64 z.2.2), (11, .int .i64 (k : Int)), (12, .int .i64 (z.1 : Int))]) (fun zz w => Mem w0 w ((fun z => Asr.lst arrE (some ⟨g4_0, 0, none⟩) 8 (List.replicate 8 0) :: (z.2.1.L ++ [Asr.lst intE B cB sh])) zz) ∧ (fun z => z.1 ≤ 60 ∧ z.2.1.ok ∧ FairP z.2.1.s sh (fun y => if y < k then 60 else if y = k then z.1 else 0) (60 * k + z.1) z.2.2 ∧ 1 ≤ z.2.2 ∧ z.2.2 ≤ 120) zz) (fun z => 60 - z.1) ((0, x, most)) (by (repeat' (first | exact envSub.nil | refine envSub.cons ?_ ?_)) <;> first | rfl | (refine congrArg some ?_; refine congrArg (Value.int _) ?_; first | omega | (dsimp only; omega)) | (simp; done) | (refine congrArg some ?_; dsimp only; congr 1; omega) | (simp; omega)) ⟨M.sel (by first | ((repeat (first | with_reducible exact Sel.refl | with_reducible exact Sel.nil | with_reducible exact Del.here | with_reducible apply Del.there | with_reducible apply Sel.cons | with_reducible apply Sel.drop)); done) | (repeat (first | exact Sel.refl | exact Sel.nil | exact Del.here | apply Del.there | apply Sel.cons | apply Sel.drop))), ⟨by simp, hxo, hPk, hm1, hm2⟩⟩ ?_
    clear M; rintro (⟨i, x1, most1⟩) w ⟨M, ⟨hi, hxo1, hP1, hm11, hm12⟩⟩; dsimp only at M hi hxo1 hP1 hm11 hm12 ⊢
    refine W.sub [(1, _), (2, _), (7, _), (8, _), (9, _), (10, _), (11, _), (12, _)] (.cons rfl (.cons rfl (.cons rfl (.cons rfl (.cons rfl (.cons rfl (.cons rfl (.cons rfl .nil)))))))) ?_
    refine W.seq ?_
    refine W.seq ?_
    refine W.region ?_
    refine WL.move rfl rfl ?_
    refine WL.lss rfl rfl rfl ?_
    refine WL.nil ?_
    refine WX.next ?_
    refine W.sub [(1, _), (2, _), (7, _), (8, _), (9, _), (10, _), (11, _), (12, _), (33, _)] (.cons rfl (.cons rfl (.cons rfl (.cons rfl (.cons rfl (.cons rfl (.cons rfl (.cons rfl (.cons rfl .nil))))))))) ?_
    refine W.ite rfl (fun c2 => ?_) (fun c2 => ?_)
    · refine W.skip ?_
      refine WX.next ?_
      refine W.seq ?_
      refine W.block ?_
      refine W.seq ?_
      refine W.region ?_
      refine WL.move rfl rfl ?_
      refine WL.buildP (places := #[(0, 1), (1, 1), (2, 1)]) Try.underlying31 Try.zeroValue31 (fun _ => by simp [Try.sizeOf3, Try.sizeOf3, Try.sizeOf29]) rfl (by repeat (first | exact Puts.nil | exact SetAt.zero | apply SetAt.succ | apply Puts.cons rfl rfl)) rfl ?_
      refine WL.alloc Try.zeroValue31 M rfl ?_
      intro g12_2 w M
      try simp only [Value.cells] at M
      try simp only [List.toList_toArray] at M
      refine WL.storeWA Try.sizeOf31 rfl rfl (by repeat (first | exact oneNil | refine oneCons rfl ?_)) rfl rfl M (by first | ((repeat (first | with_reducible exact Upd.here | with_reducible apply Upd.there)); done) | (repeat (first | exact Upd.here | apply Upd.there))) ?_
      intro w M
      refine WL.nil ?_
      refine WX.next ?_
      refine W.sub [(1, _), (2, _), (7, _), (8, _), (9, _), (10, _), (11, _), (12, _), (13, _)] (.cons rfl (.cons rfl (.cons rfl (.cons rfl (.cons rfl (.cons rfl (.cons rfl (.cons rfl (.cons rfl .nil))))))))) ?_
      refine W.joint (fun (j : JX) => [(1, .slice A1 l.length k1), (2, .int .i64 pops), (7, .pointer (some ⟨x1.g, 0, none⟩)), (8, .slice B sh.length cB), (9, .pointer (some ⟨g4_0, 0, none⟩)), (10, .int .i64 most1), (11, .int .i64 (k : Int)), (12, .int .i64 (i : Int)), (13, .pointer (some ⟨g12_2, 0, none⟩))]) (fun j w => Mem w0 w ((fun j => Asr.row g12_2 31 [.int .i64 j.flow, .int .i64 j.cost, .int .u64 (j.id : Int)] :: Asr.lst arrE (some ⟨g4_0, 0, none⟩) 8 (List.replicate 8 0) :: (x1.L ++ [Asr.lst intE B cB sh])) j) ∧ (fun j => j.flow = (k : Int) ∧ 1 ≤ j.cost ∧ j.cost ≤ 120) j) ?_ ?_
      · refine W.seq ?_
        refine W.region ?_
        refine WL.move rfl rfl ?_
        refine WL.move rfl rfl ?_
        refine WL.len Try.underlying27 rfl rfl ?_
        refine WL.lss rfl rfl rfl ?_
        refine WL.nil ?_
        refine WX.next ?_
        refine W.sub [(1, _), (2, _), (7, _), (8, _), (9, _), (10, _), (11, _), (12, _), (13, _), (41, _)] (.cons rfl (.cons rfl (.cons rfl (.cons rfl (.cons rfl (.cons rfl (.cons rfl (.cons rfl (.cons rfl (.cons rfl .nil)))))))))) ?_
        refine W.ite rfl (fun c3 => ?_) (fun c3 => ?_)
        · have hjx := jobX_ok (el l i) (n := sh.length) hS.1
          refine W.seq ?_
          refine W.region ?_
          refine WL.move rfl rfl ?_
          refine WL.move rfl rfl ?_
          refine WL.idxA Try.underlying27 Try.sizeOf31 rfl rfl (RdL.isSome (E := jobE) (by first | with_reducible assumption | with_reducible exact RdL.mem (by with_reducible assumption) M | exact M.rdL (by first | ((repeat (first | with_reducible exact Has.here | with_reducible refine Has.there ?_)); done) | (repeat (first | exact Has.here | refine Has.there ?_))) | exact RdLH.at (by assumption) (M.sel (by first | ((repeat (first | with_reducible exact Sel.refl | with_reducible exact Sel.nil | with_reducible exact Del.here | with_reducible apply Del.there | with_reducible apply Sel.cons | with_reducible apply Sel.drop)); done) | (repeat (first | exact Sel.refl | exact Sel.nil | exact Del.here | apply Del.there | apply Sel.cons | apply Sel.drop)))) | exact RdL.nil _ _ _) (by omega)) (by omega) (by omega) (by first | exact rfl | exact (Int.toNat_of_nonneg (by omega)).symm) rfl ?_
          refine WL.loadL (E := jobE) (cs := [_, _, _]) Try.isAgg31 Try.sizeOf31 rfl (by first | with_reducible assumption | with_reducible exact RdL.mem (by with_reducible assumption) M | exact M.rdL (by first | ((repeat (first | with_reducible exact Has.here | with_reducible refine Has.there ?_)); done) | (repeat (first | exact Has.here | refine Has.there ?_))) | exact RdLH.at (by assumption) (M.sel (by first | ((repeat (first | with_reducible exact Sel.refl | with_reducible exact Sel.nil | with_reducible exact Del.here | with_reducible apply Del.there | with_reducible apply Sel.cons | with_reducible apply Sel.drop)); done) | (repeat (first | exact Sel.refl | exact Sel.nil | exact Del.here | apply Del.there | apply Sel.cons | apply Sel.drop)))) | exact RdL.nil _ _ _) rfl (by omega) rfl rfl ?_
          refine WL.move rfl rfl ?_
          refine WL.len Try.underlying22 rfl rfl ?_
          refine WL.call Try.call11 rfl (job_ok (el l i) sh.length (by omega) _) rfl ?_
          rintro _ w ⟨rfl, m⟩
          replace M := M.call0 m; clear m
          unfold JX.v
          refine WL.storeWA Try.sizeOf31 rfl rfl (by repeat (first | exact oneNil | refine oneCons rfl ?_)) rfl rfl M (by first | ((repeat (first | with_reducible exact Upd.here | with_reducible apply Upd.there)); done) | (repeat (first | exact Upd.here | apply Upd.there))) ?_
          intro w M
          refine WL.nil ?_
          refine WX.next ?_
          refine W.sub [(1, _), (2, _), (7, _), (8, _), (9, _), (10, _), (11, _), (12, _), (13, _)] (.cons rfl (.cons rfl (.cons rfl (.cons rfl (.cons rfl (.cons rfl (.cons rfl (.cons rfl (.cons rfl .nil))))))))) ?_
          refine W.region ?_
          refine WL.move rfl rfl ?_
          refine WL.fieldR (off := 0) Try.underlying31 rfl rfl Try.sizeOf3 rfl rfl rfl ?_
          refine WL.storeR Try.sizeOf3 rfl rfl rfl M (by first | ((repeat (first | with_reducible exact Has.here | with_reducible refine Has.there ?_)); done) | (repeat (first | exact Has.here | refine Has.there ?_))) (by repeat (first | exact SetAt.zero | apply SetAt.succ)) (by first | ((repeat (first | with_reducible exact Upd.here | with_reducible apply Upd.there)); done) | (repeat (first | exact Upd.here | apply Upd.there))) ?_
          intro w M
          refine WL.nil ?_
          refine WX.join (⟨(k : Int), (jobX (el l i) sh.length).cost, (jobX (el l i) sh.length).id⟩) (by (repeat' (first | exact envSub.nil | refine envSub.cons ?_ ?_)) <;> first | rfl | (refine congrArg some ?_; refine congrArg (Value.int _) ?_; first | omega | (dsimp only; omega)) | (simp; done) | (refine congrArg some ?_; dsimp only; congr 1; omega) | (simp; omega)) ⟨M.sel (by first | ((repeat (first | with_reducible exact Sel.refl | with_reducible exact Sel.nil | with_reducible exact Del.here | with_reducible apply Del.there | with_reducible apply Sel.cons | with_reducible apply Sel.drop)); done) | (repeat (first | exact Sel.refl | exact Sel.nil | exact Del.here | apply Del.there | apply Sel.cons | apply Sel.drop))), ⟨rfl, hjx.2.2.1, hjx.2.2.2⟩⟩
        · refine W.skip ?_
          refine WX.join (⟨(k : Int), 7, 0⟩) (by (repeat' (first | exact envSub.nil | refine envSub.cons ?_ ?_)) <;> first | rfl | (refine congrArg some ?_; refine congrArg (Value.int _) ?_; first | omega | (dsimp only; omega)) | (simp; done) | (refine congrArg some ?_; dsimp only; congr 1; omega) | (simp; omega)) ⟨M.sel (by first | ((repeat (first | with_reducible exact Sel.refl | with_reducible exact Sel.nil | with_reducible exact Del.here | with_reducible apply Del.there | with_reducible apply Sel.cons | with_reducible apply Sel.drop)); done) | (repeat (first | exact Sel.refl | exact Sel.nil | exact Del.here | apply Del.there | apply Sel.cons | apply Sel.drop))), ⟨rfl, (by dsimp only; omega), (by dsimp only; omega)⟩⟩
      clear M; rintro (⟨jf, jc, ji⟩) w ⟨M, ⟨hjf, hjc1, hjc2⟩⟩; dsimp only at M hjf hjc1 hjc2 ⊢
      refine W.sub [(1, _), (2, _), (7, _), (8, _), (9, _), (10, _), (11, _), (12, _), (13, _)] (.cons rfl (.cons rfl (.cons rfl (.cons rfl (.cons rfl (.cons rfl (.cons rfl (.cons rfl (.cons rfl .nil))))))))) ?_
      try dsimp only at hjf hjc1 hjc2 M ⊢
      obtain ⟨hpe, hP2⟩ := hP1.push (by omega) (j := ⟨jf, jc, ji⟩) (k := k) hjf (by omega) ⟨hjc1, hjc2⟩
      refine W.seq ?_
      refine W.region ?_
      refine WL.move rfl rfl ?_
      refine WL.fieldR (off := 1) Try.underlying31 rfl rfl Try.sizeOf3 rfl rfl rfl ?_
      refine WL.loadR Try.isAgg3 rfl M (by first | ((repeat (first | with_reducible exact Has.here | with_reducible refine Has.there ?_)); done) | (repeat (first | exact Has.here | refine Has.there ?_))) rfl rfl ?_
      refine WL.max rfl rfl rfl ?_
      refine WL.assign rfl rfl ?_
      refine WL.nil ?_
      refine WX.next ?_
      refine W.sub [(1, _), (2, _), (7, _), (8, _), (9, _), (10, _), (11, _), (12, _), (13, _)] (.cons rfl (.cons rfl (.cons rfl (.cons rfl (.cons rfl (.cons rfl (.cons rfl (.cons rfl (.cons rfl .nil))))))))) ?_
      refine W.seq ?_
      refine W.region ?_
      refine WL.move rfl rfl ?_
      refine WL.loadW Try.isAgg31 Try.sizeOf31 rfl M (by first | ((repeat (first | with_reducible exact Has.here | with_reducible refine Has.there ?_)); done) | (repeat (first | exact Has.here | refine Has.there ?_))) rfl rfl ?_
      refine WL.call Try.call12 rfl (Push1_ok x1 hxo1 ⟨jf, jc, ji⟩ w0 w _ (M.sel (K := x1.L ++ (Asr.lst arrE (some ⟨g4_0, 0, none⟩) 8 (List.replicate 8 0) :: [Asr.lst intE B cB sh])) (by first | ((repeat (first | with_reducible exact Sel.refl | with_reducible exact Sel.nil | with_reducible exact Del.here | with_reducible apply Del.there | with_reducible apply Sel.cons | with_reducible apply Sel.drop)); done) | (repeat (first | exact Sel.refl | exact Sel.nil | exact Del.here | apply Del.there | apply Sel.cons | apply Sel.drop))))) rfl ?_
      rintro _ w ⟨x2, rfl, hg2, hs2, ho2, M⟩
      rw [hg2, hpe]
      rw [← hs2] at hP2
      refine WL.neI rfl rfl rfl ?_
      refine WL.nil ?_
      refine WX.next ?_
      refine W.sub [(1, _), (2, _), (7, _), (8, _), (9, _), (10, _), (11, _), (12, _), (58, _)] (.cons rfl (.cons rfl (.cons rfl (.cons rfl (.cons rfl (.cons rfl (.cons rfl (.cons rfl (.cons rfl .nil))))))))) ?_
      refine W.ite rfl (fun c4 => ?_) (fun c4 => ?_)
      · exact absurd rfl c4
      · refine W.skip ?_
        refine WX.blockNormal ?_
        refine WX.next ?_
        refine W.region ?_
        refine WL.move rfl rfl ?_
        refine WL.add rfl rfl (by first | exact wI64 (by omega) | rfl) rfl ?_
        refine WL.assign rfl rfl ?_
        refine WL.nil ?_
        skip
        have q : FairP x2.s sh (fun y => if y < k then 60 else if y = k then i + 1 else 0) (60 * k + (i + 1)) (max most1 jc) := hP2.congr (fun y _ => by
          try dsimp only
          by_cases e : y = k
          · subst e; rw [if_pos rfl, if_neg (by omega), if_pos rfl, if_neg (by omega), if_pos rfl]
          · rw [if_neg e, if_neg e]
            split <;> rfl) (by omega) rfl
        refine WX.round ((i + 1, x2, max most1 jc)) (by (repeat' (first | exact envSub.nil | refine envSub.cons ?_ ?_)) <;> first | rfl | (refine congrArg some ?_; refine congrArg (Value.int _) ?_; first | omega | (dsimp only; omega)) | (simp; done) | (refine congrArg some ?_; dsimp only; congr 1; omega) | (simp; omega)) ⟨M.sel (by first | ((repeat (first | with_reducible exact Sel.refl | with_reducible exact Sel.nil | with_reducible exact Del.here | with_reducible apply Del.there | with_reducible apply Sel.cons | with_reducible apply Sel.drop)); done) | (repeat (first | exact Sel.refl | exact Sel.nil | exact Del.here | apply Del.there | apply Sel.cons | apply Sel.drop))), ⟨by dsimp only; omega, ho2, q, by dsimp only; omega, by dsimp only; omega⟩⟩ (by first | omega | (dsimp only; omega))
    · obtain rfl : i = 60 := by omega
      refine W.exit ?_
      refine WX.thenExit ?_
      refine WX.thenExit ?_
      refine WX.blockHere ?_
      refine WX.blockNormal ?_
      refine WX.next ?_
      refine W.region ?_
      refine WL.move rfl rfl ?_
      refine WL.add rfl rfl (by first | exact wI64 (by omega) | rfl) rfl ?_
      refine WL.assign rfl rfl ?_
      refine WL.nil ?_
      skip
      have qq : FairP x1.s sh (fun y => if y < k + 1 then 60 else 0) (60 * (k + 1)) most1 := hP1.congr (fun y _ => by
        try dsimp only
        by_cases h2 : y < k
        · rw [if_pos h2, if_pos (by omega)]
        · rw [if_neg h2]
          by_cases h3 : y = k
          · rw [if_pos h3, if_pos (by omega)]
          · rw [if_neg h3, if_neg (by omega)]) (by omega) rfl
      refine WX.round ((k + 1, x1, most1)) (by (repeat' (first | exact envSub.nil | refine envSub.cons ?_ ?_)) <;> first | rfl | (refine congrArg some ?_; refine congrArg (Value.int _) ?_; first | omega | (dsimp only; omega)) | (simp; done) | (refine congrArg some ?_; dsimp only; congr 1; omega) | (simp; omega)) ⟨M.sel (by first | ((repeat (first | with_reducible exact Sel.refl | with_reducible exact Sel.nil | with_reducible exact Del.here | with_reducible apply Del.there | with_reducible apply Sel.cons | with_reducible apply Sel.drop)); done) | (repeat (first | exact Sel.refl | exact Sel.nil | exact Del.here | apply Del.there | apply Sel.cons | apply Sel.drop))), ⟨by dsimp only; omega, hxo1, qq, hm11, hm12⟩⟩ (by first | omega | (dsimp only; omega))
  · obtain rfl : k = sh.length := by omega
    have hQ0 := hP.go (by omega) (fun y hy => by rw [if_pos hy]; omega)
    obtain ⟨a0, ha0⟩ : ∃ a : Nat, IntKind.u64.wrap pops = (a : Int) := ⟨(pops % 18446744073709551616).toNat, by rw [mU64]; omega⟩
    refine W.exit ?_
    refine WX.thenExit ?_
    refine WX.thenExit ?_
    refine WX.blockHere ?_
    refine WX.next ?_
    refine W.seq ?_
    refine W.seq ?_
    refine W.region ?_
    refine WL.assign rfl rfl ?_
    refine WL.nil ?_
    refine WX.next ?_
    refine W.sub [(2, _), (7, _), (8, _), (9, _), (10, _), (14, _)] (.cons rfl (.cons rfl (.cons rfl (.cons rfl (.cons rfl (.cons rfl .nil)))))) ?_
    refine W.block ?_
    refine W.loop (ι := Nat × SdX × List Int) (fun z => [(2, .int .i64 pops), (7, .pointer (some ⟨z.2.1.g, 0, none⟩)), (8, .slice B sh.length cB), (9, .pointer (some ⟨g4_0, 0, none⟩)), (10, .int .i64 most), (14, .int .i64 (z.1 : Int))]) (fun zz w => Mem w0 w ((fun z => Asr.lst arrE (some ⟨g4_0, 0, none⟩) 8 z.2.2 :: (z.2.1.L ++ [Asr.lst intE B cB sh])) zz) ∧ (fun z => z.1 ≤ 400 ∧ z.2.1.ok ∧ FairQ z.2.1.s sh z.2.2 z.1 most) zz) (fun z => 400 - z.1) ((0, x, List.replicate 8 0)) (by (repeat' (first | exact envSub.nil | refine envSub.cons ?_ ?_)) <;> first | rfl | (refine congrArg some ?_; refine congrArg (Value.int _) ?_; first | omega | (dsimp only; omega)) | (simp; done) | (refine congrArg some ?_; dsimp only; congr 1; omega) | (simp; omega)) ⟨M.sel (by first | ((repeat (first | with_reducible exact Sel.refl | with_reducible exact Sel.nil | with_reducible exact Del.here | with_reducible apply Del.there | with_reducible apply Sel.cons | with_reducible apply Sel.drop)); done) | (repeat (first | exact Sel.refl | exact Sel.nil | exact Del.here | apply Del.there | apply Sel.cons | apply Sel.drop))), ⟨by simp, hxo, hQ0⟩⟩ ?_
    clear M; rintro (⟨i, x1, G⟩) w ⟨M, ⟨hi, hxo1, hQ⟩⟩; dsimp only at M hi hxo1 hQ ⊢
    refine W.sub [(2, _), (7, _), (8, _), (9, _), (10, _), (14, _)] (.cons rfl (.cons rfl (.cons rfl (.cons rfl (.cons rfl (.cons rfl .nil)))))) ?_
    refine W.seq ?_
    refine W.seq ?_
    refine W.region ?_
    refine WL.move rfl rfl ?_
    refine WL.move rfl rfl ?_
    refine WL.conv Try.underlying3 Try.underlying43 rfl ha0 rfl ?_
    refine WL.rem rfl rfl (by omega) (remN (by omega)) rfl ?_
    refine WL.conv Try.underlying43 Try.underlying3 rfl (by first | exact wI64 (by omega) | rfl) rfl ?_
    refine WL.lss rfl rfl rfl ?_
    refine WL.nil ?_
    refine WX.next ?_
    refine W.sub [(2, _), (7, _), (8, _), (9, _), (10, _), (14, _), (64, _)] (.cons rfl (.cons rfl (.cons rfl (.cons rfl (.cons rfl (.cons rfl (.cons rfl .nil))))))) ?_
    refine W.ite rfl (fun c5 => ?_) (fun c5 => ?_)
    · have hn1 := hQ.n hS.1
      obtain ⟨kk, js, hp⟩ := pop_says hxo1.s hn1
      have hkk : kk < sh.length := by rw [← hQ.len]; exact hp.lt
      have hgl := hQ.gl
      have hco := hp.cost
      have hgk := hQ.g kk (by omega)
      refine W.skip ?_
      refine WX.next ?_
      refine W.seq ?_
      refine W.block ?_
      refine W.seq ?_
      refine W.region ?_
      refine WL.move rfl rfl ?_
      refine WL.call Try.call13 rfl (Pop1_ok x1 hxo1 hn1 w0 w _ (M.sel (K := x1.L ++ (Asr.lst arrE (some ⟨g4_0, 0, none⟩) 8 G :: [Asr.lst intE B cB sh])) (by first | ((repeat (first | with_reducible exact Sel.refl | with_reducible exact Sel.nil | with_reducible exact Del.here | with_reducible apply Del.there | with_reducible apply Sel.cons | with_reducible apply Sel.drop)); done) | (repeat (first | exact Sel.refl | exact Sel.nil | exact Del.here | apply Del.there | apply Sel.cons | apply Sel.drop))))) rfl ?_
      rintro _ w ⟨x2, rfl, hg2, hs2, ho2, M⟩
      rw [hg2]
      unfold JX.v
      rw [hp.flow]
      have hx2l : x2.fw.length = sh.length := by
        have h1 : x2.s.fl.length = x2.fw.length := by simp [SdX.s]
        rw [← h1, hs2, hp.len, hQ.len]
      have hx2j : (el x2.fw kk).jobs = js := by
        have e := el_key x2.fw kk (by omega)
        have e2 : x2.fw.map FwX.key = (popS x1.s).fl := congrArg Sd.fl hs2
        rw [e2] at e
        have h3 := hp.now
        rw [e] at h3
        exact h3
      refine WL.move rfl rfl ?_
      refine WL.extractL rfl rfl rfl ?_
      refine WL.extractL rfl rfl rfl ?_
      refine WL.alloc Try.zeroValue31 M rfl ?_
      intro g22_5 w M
      try simp only [Value.cells] at M
      try simp only [List.toList_toArray] at M
      refine WL.storeWA Try.sizeOf31 rfl rfl (by repeat (first | exact oneNil | refine oneCons rfl ?_)) rfl rfl M (by first | ((repeat (first | with_reducible exact Upd.here | with_reducible apply Upd.there)); done) | (repeat (first | exact Upd.here | apply Upd.there))) ?_
      intro w M
      refine WL.assign rfl rfl ?_
      refine WL.nil ?_
      refine WX.next ?_
      refine W.sub [(2, _), (7, _), (8, _), (9, _), (10, _), (14, _), (15, _), (16, _)] (.cons rfl (.cons rfl (.cons rfl (.cons rfl (.cons rfl (.cons rfl (.cons rfl (.cons rfl .nil)))))))) ?_
      refine W.seq ?_
      refine W.seq ?_
      refine W.region ?_
      refine WL.move rfl rfl ?_
      refine WL.not rfl rfl ?_
      refine WL.nil ?_
      refine WX.next ?_
      refine W.sub [(2, _), (7, _), (8, _), (9, _), (10, _), (14, _), (15, _), (73, _)] (.cons rfl (.cons rfl (.cons rfl (.cons rfl (.cons rfl (.cons rfl (.cons rfl (.cons rfl .nil)))))))) ?_
      refine W.cond rfl (fun c6 => ?_) (fun c6 => ?_)
      · (try simp only [Bool.not_eq_true'] at c6); (try simp only [Bool.not_eq_false'] at c6); (try simp only [decide_eq_true_eq] at c6); (try simp only [decide_eq_false_iff_not] at c6)
        exact absurd c6 (by decide)
      · (try simp only [Bool.not_eq_true'] at c6); (try simp only [Bool.not_eq_false'] at c6); (try simp only [decide_eq_true_eq] at c6); (try simp only [decide_eq_false_iff_not] at c6)
        refine W.skip ?_
        refine WX.next ?_
        refine W.seq ?_
        refine W.seq ?_
        refine W.region ?_
        refine WL.move rfl rfl ?_
        refine WL.fieldR (off := 0) Try.underlying31 rfl rfl Try.sizeOf3 rfl rfl rfl ?_
        refine WL.loadR Try.isAgg3 rfl M (by first | ((repeat (first | with_reducible exact Has.here | with_reducible refine Has.there ?_)); done) | (repeat (first | exact Has.here | refine Has.there ?_))) rfl rfl ?_
        refine WL.call Try.call22 rfl (Len_ok x2 (by omega) kk (by omega) w0 _ _ (M.sel (K := x2.L ++ []) (by first | ((repeat (first | with_reducible exact Sel.refl | with_reducible exact Sel.nil | with_reducible exact Del.here | with_reducible apply Del.there | with_reducible apply Sel.cons | with_reducible apply Sel.drop)); done) | (repeat (first | exact Sel.refl | exact Sel.nil | exact Del.here | apply Del.there | apply Sel.cons | apply Sel.drop))))) rfl ?_
        rintro _ _ ⟨rfl, rfl⟩
        rw [hx2j]
        refine WL.eqI rfl rfl rfl ?_
        refine WL.nil ?_
        refine WX.next ?_
        refine W.sub [(2, _), (7, _), (8, _), (9, _), (10, _), (14, _), (15, _), (78, _)] (.cons rfl (.cons rfl (.cons rfl (.cons rfl (.cons rfl (.cons rfl (.cons rfl (.cons rfl .nil)))))))) ?_
        refine W.ite rfl (fun c7 => ?_) (fun c7 => ?_)
        · refine W.exit ?_
          refine WX.thenExit ?_
          refine WX.blockPast rfl ?_
          refine WX.thenExit ?_
          refine WX.thenExit ?_
          refine WX.blockHere ?_
          refine WX.next ?_
          refine W.seq ?_
          refine W.region ?_
          refine WL.call Try.call16 rfl (known21_ok _) rfl ?_
          rintro _ w ⟨rfl, m⟩
          replace M := M.call0 m; clear m
          refine WL.assign rfl rfl ?_
          refine WL.nil ?_
          refine WX.next ?_
          refine W.sub [(6, _)] (.cons rfl .nil) ?_
          refine W.ret ?_
          refine WX.ret1 rfl rfl ?_
          exact ⟨rfl, M.sel (by first | ((repeat (first | with_reducible exact Sel.refl | with_reducible exact Sel.nil | with_reducible exact Del.here | with_reducible apply Del.there | with_reducible apply Sel.cons | with_reducible apply Sel.drop)); done) | (repeat (first | exact Sel.refl | exact Sel.nil | exact Del.here | apply Del.there | apply Sel.cons | apply Sel.drop)))⟩
        · have hjs : js ≠ [] := fun e => c7 (by rw [e]; rfl)
          have hQ2 := hQ.pop ⟨hm1, hm2⟩ ⟨hS.1, hS.2.1⟩ hp hjs
          refine W.skip ?_
          refine WX.next ?_
          refine W.seq ?_
          refine W.drawM (_) (by kernel_rfl) (fun j => [1, 3, 4, 5, 7, 8].contains j) M Sel.refl ?_
          clear M; intro M
          apply DG.pure_ [0, 2, 6] 8 rfl (by kernel_rfl) (by kernel_rfl)
          · intro w
            refine WL.fieldR (off := 0) Try.underlying31 rfl rfl Try.sizeOf3 rfl rfl rfl ?_
            refine WL.fieldR (off := 0) Try.underlying31 rfl rfl Try.sizeOf3 rfl rfl rfl ?_
            refine WL.fieldR (off := 1) Try.underlying31 rfl rfl Try.sizeOf3 rfl rfl rfl ?_
            exact Chain.end_ rfl
          apply DG.take [1, 3, 4, 5, 7, 8, 9] 1 rfl (by kernel_rfl) (by kernel_rfl) (M.sel (by first | ((repeat (first | with_reducible exact Sel.refl | with_reducible exact Sel.nil | with_reducible exact Del.here | with_reducible apply Del.there | with_reducible apply Sel.cons | with_reducible apply Sel.drop)); done) | (repeat (first | exact Sel.refl | exact Sel.nil | exact Del.here | apply Del.there | apply Sel.cons | apply Sel.drop))))
          · intro w M
            refine WL.loadR Try.isAgg3 rfl M (by first | ((repeat (first | with_reducible exact Has.here | with_reducible refine Has.there ?_)); done) | (repeat (first | exact Has.here | refine Has.there ?_))) rfl rfl ?_
            refine WL.loadR Try.isAgg3 rfl M (by first | ((repeat (first | with_reducible exact Has.here | with_reducible refine Has.there ?_)); done) | (repeat (first | exact Has.here | refine Has.there ?_))) rfl rfl ?_
            refine WL.idxArr Try.underlying54 Try.sizeOf3 rfl rfl (by omega) (by omega) (by first | exact rfl | exact (Int.toNat_of_nonneg (by omega)).symm) rfl ?_
            refine WL.loadE0 (E := arrE) (A := some ⟨g4_0, 0, none⟩) (j := kk) Try.isAgg3 rfl (by first | with_reducible assumption | with_reducible exact RdL.mem (by with_reducible assumption) M | exact M.rdL (by first | ((repeat (first | with_reducible exact Has.here | with_reducible refine Has.there ?_)); done) | (repeat (first | exact Has.here | refine Has.there ?_))) | exact RdLH.at (by assumption) (M.sel (by first | ((repeat (first | with_reducible exact Sel.refl | with_reducible exact Sel.nil | with_reducible exact Del.here | with_reducible apply Del.there | with_reducible apply Sel.cons | with_reducible apply Sel.drop)); done) | (repeat (first | exact Sel.refl | exact Sel.nil | exact Del.here | apply Del.there | apply Sel.cons | apply Sel.drop)))) | exact RdL.nil _ _ _) (by omega) rfl rfl ?_
            refine WL.loadR Try.isAgg3 rfl M (by first | ((repeat (first | with_reducible exact Has.here | with_reducible refine Has.there ?_)); done) | (repeat (first | exact Has.here | refine Has.there ?_))) rfl rfl ?_
            refine WL.add rfl rfl (wI64 (by omega)) rfl ?_
            refine WL.idxArr Try.underlying54 Try.sizeOf3 rfl rfl (by omega) (by omega) (by first | exact rfl | exact (Int.toNat_of_nonneg (by omega)).symm) rfl ?_
            exact Chain.end_ rfl
          refine DG.step 10 0 rfl (by kernel_rfl) ?_
          refine WL.storeE0 (E := arrE) (A := some ⟨g4_0, 0, none⟩) (j := kk) (x' := el G kk + (popJ x1.s).cost) Try.sizeOf3 rfl rfl rfl M (by first | ((repeat (first | with_reducible exact Has.here | with_reducible refine Has.there ?_)); done) | (repeat (first | exact Has.here | refine Has.there ?_))) (by omega) (by repeat (first | exact SetAt.zero | apply SetAt.succ)) (by first | ((repeat (first | with_reducible exact Upd.here | with_reducible apply Upd.there)); done) | (repeat (first | exact Upd.here | apply Upd.there))) ?_
          intro w M
          refine DG.go (G := fun j => [1, 3, 4, 5, 7, 8].contains j) (i := 10) (f' := 0) (done := [0, 2, 6, 1, 3, 4, 5, 7, 8, 9]) (fun h => by cases h) ?_
          refine DG.end_ (by kernel_rfl) ?_
          refine WX.next ?_
          refine W.sub [(2, _), (7, _), (8, _), (9, _), (10, _), (14, _)] (.cons rfl (.cons rfl (.cons rfl (.cons rfl (.cons rfl (.cons rfl .nil)))))) ?_
          refine W.seq ?_
          rw [← hs2] at hQ2
          generalize G.set kk (el G kk + (popJ x1.s).cost) = G2 at hQ2 M
          have hgl2 := hQ2.gl
          refine W.region ?_
          refine WL.assign rfl rfl ?_
          refine WL.nil ?_
          refine WX.next ?_
          refine W.sub [(2, _), (7, _), (8, _), (9, _), (10, _), (14, _), (17, _)] (.cons rfl (.cons rfl (.cons rfl (.cons rfl (.cons rfl (.cons rfl (.cons rfl .nil))))))) ?_
          refine W.block ?_
          refine W.loop (ι := Nat) (fun a => [(2, .int .i64 pops), (7, .pointer (some ⟨x2.g, 0, none⟩)), (8, .slice B sh.length cB), (9, .pointer (some ⟨g4_0, 0, none⟩)), (10, .int .i64 most), (14, .int .i64 (i : Int)), (17, .int .i64 (a : Int))]) (fun zz w => Mem w0 w ((fun _ => Asr.lst arrE (some ⟨g4_0, 0, none⟩) 8 G2 :: (x2.L ++ [Asr.lst intE B cB sh])) zz) ∧ (fun a => a ≤ sh.length) zz) (fun a => sh.length - a) (0) (by (repeat' (first | exact envSub.nil | refine envSub.cons ?_ ?_)) <;> first | rfl | (refine congrArg some ?_; refine congrArg (Value.int _) ?_; first | omega | (dsimp only; omega)) | (simp; done) | (refine congrArg some ?_; dsimp only; congr 1; omega) | (simp; omega)) ⟨M.sel (by first | ((repeat (first | with_reducible exact Sel.refl | with_reducible exact Sel.nil | with_reducible exact Del.here | with_reducible apply Del.there | with_reducible apply Sel.cons | with_reducible apply Sel.drop)); done) | (repeat (first | exact Sel.refl | exact Sel.nil | exact Del.here | apply Del.there | apply Sel.cons | apply Sel.drop))), Nat.zero_le _⟩ ?_
          clear M; rintro (a) w ⟨M, hal⟩; dsimp only at M hal ⊢
          refine W.sub [(2, _), (7, _), (8, _), (9, _), (10, _), (14, _), (17, _)] (.cons rfl (.cons rfl (.cons rfl (.cons rfl (.cons rfl (.cons rfl (.cons rfl .nil))))))) ?_
          refine W.seq ?_
          refine W.seq ?_
          refine W.region ?_
          refine WL.move rfl rfl ?_
          refine WL.move rfl rfl ?_
          refine WL.len Try.underlying22 rfl rfl ?_
          refine WL.lss rfl rfl rfl ?_
          refine WL.nil ?_
          refine WX.next ?_
          refine W.sub [(2, _), (7, _), (8, _), (9, _), (10, _), (14, _), (17, _), (92, _)] (.cons rfl (.cons rfl (.cons rfl (.cons rfl (.cons rfl (.cons rfl (.cons rfl (.cons rfl .nil)))))))) ?_
          refine W.ite rfl (fun c8 => ?_) (fun c8 => ?_)
          · refine W.skip ?_
            refine WX.next ?_
            refine W.seq ?_
            refine W.block ?_
            refine W.seq ?_
            refine W.region ?_
            refine WL.assign rfl rfl ?_
            refine WL.nil ?_
            refine WX.next ?_
            refine W.sub [(2, _), (7, _), (8, _), (9, _), (10, _), (14, _), (17, _), (18, _)] (.cons rfl (.cons rfl (.cons rfl (.cons rfl (.cons rfl (.cons rfl (.cons rfl (.cons rfl .nil)))))))) ?_
            refine W.block ?_
            refine W.loop (ι := Nat) (fun b => [(2, .int .i64 pops), (7, .pointer (some ⟨x2.g, 0, none⟩)), (8, .slice B sh.length cB), (9, .pointer (some ⟨g4_0, 0, none⟩)), (10, .int .i64 most), (14, .int .i64 (i : Int)), (17, .int .i64 (a : Int)), (18, .int .i64 (b : Int))]) (fun zz w => Mem w0 w ((fun _ => Asr.lst arrE (some ⟨g4_0, 0, none⟩) 8 G2 :: (x2.L ++ [Asr.lst intE B cB sh])) zz) ∧ (fun b => b ≤ sh.length) zz) (fun b => sh.length - b) (0) (by (repeat' (first | exact envSub.nil | refine envSub.cons ?_ ?_)) <;> first | rfl | (refine congrArg some ?_; refine congrArg (Value.int _) ?_; first | omega | (dsimp only; omega)) | (simp; done) | (refine congrArg some ?_; dsimp only; congr 1; omega) | (simp; omega)) ⟨M.sel (by first | ((repeat (first | with_reducible exact Sel.refl | with_reducible exact Sel.nil | with_reducible exact Del.here | with_reducible apply Del.there | with_reducible apply Sel.cons | with_reducible apply Sel.drop)); done) | (repeat (first | exact Sel.refl | exact Sel.nil | exact Del.here | apply Del.there | apply Sel.cons | apply Sel.drop))), Nat.zero_le _⟩ ?_
            clear M; rintro (b) w ⟨M, hbl⟩; dsimp only at M hbl ⊢
            refine W.sub [(2, _), (7, _), (8, _), (9, _), (10, _), (14, _), (17, _), (18, _)] (.cons rfl (.cons rfl (.cons rfl (.cons rfl (.cons rfl (.cons rfl (.cons rfl (.cons rfl .nil)))))))) ?_
            refine W.seq ?_
            refine W.seq ?_
            refine W.region ?_
            refine WL.move rfl rfl ?_
            refine WL.move rfl rfl ?_
            refine WL.len Try.underlying22 rfl rfl ?_
            refine WL.lss rfl rfl rfl ?_
            refine WL.nil ?_
            refine WX.next ?_
            refine W.sub [(2, _), (7, _), (8, _), (9, _), (10, _), (14, _), (17, _), (18, _), (98, _)] (.cons rfl (.cons rfl (.cons rfl (.cons rfl (.cons rfl (.cons rfl (.cons rfl (.cons rfl (.cons rfl .nil))))))))) ?_
            refine W.ite rfl (fun c9 => ?_) (fun c9 => ?_)
            · have ga := hQ2.g a (by omega)
              have gb := hQ2.g b (by omega)
              have sa := @hSe a (by omega)
              have sb := @hSe b (by omega)
              have p1 := mul_bd ga.1 (show el G2 a ≤ 48000 by omega) (show 0 ≤ el sh b by omega) sb.2
              have p2 := mul_bd gb.1 (show el G2 b ≤ 48000 by omega) (show 0 ≤ el sh a by omega) sa.2
              have p3 := mul_bd (show 0 ≤ el sh a by omega) sa.2 (show 0 ≤ el sh b by omega) sb.2
              have p4 := mul_bd (show 0 ≤ most by omega) hm2 (show 0 ≤ el sh b by omega) sb.2
              have p5 := mul_bd (show 0 ≤ most by omega) hm2 (show 0 ≤ el sh a by omega) sa.2
              have hfair := hQ2.fair (by omega) (x := a) (y := b) (by omega) (by omega)
              refine W.skip ?_
              refine WX.next ?_
              refine W.seq ?_
              refine W.block ?_
              refine W.seq ?_
              refine W.drawM (_) (by kernel_rfl) (fun j => [2, 6, 7, 10, 14, 15, 16, 20, 24, 25, 30, 31, 32, 37, 38, 39].contains j) M Sel.refl ?_
              clear M; intro M
              apply DG.pure_ [0, 1, 3, 4, 5, 8, 9, 11, 12, 13, 17, 18, 19, 21, 22, 23, 26, 27, 28, 29, 33, 34, 35, 36] 17 rfl (by kernel_rfl) (by kernel_rfl)
              · intro w
                refine WL.move rfl rfl ?_
                refine WL.idxArr Try.underlying54 Try.sizeOf3 rfl rfl (by omega) (by omega) (by first | exact rfl | exact (Int.toNat_of_nonneg (by omega)).symm) rfl ?_
                refine WL.move rfl rfl ?_
                refine WL.move rfl rfl ?_
                refine WL.idxA Try.underlying22 Try.sizeOf3 rfl rfl (RdL.isSome (E := intE) (by first | with_reducible assumption | with_reducible exact RdL.mem (by with_reducible assumption) M | exact M.rdL (by first | ((repeat (first | with_reducible exact Has.here | with_reducible refine Has.there ?_)); done) | (repeat (first | exact Has.here | refine Has.there ?_))) | exact RdLH.at (by assumption) (M.sel (by first | ((repeat (first | with_reducible exact Sel.refl | with_reducible exact Sel.nil | with_reducible exact Del.here | with_reducible apply Del.there | with_reducible apply Sel.cons | with_reducible apply Sel.drop)); done) | (repeat (first | exact Sel.refl | exact Sel.nil | exact Del.here | apply Del.there | apply Sel.cons | apply Sel.drop)))) | exact RdL.nil _ _ _) (by omega)) (by omega) (by omega) (by first | exact rfl | exact (Int.toNat_of_nonneg (by omega)).symm) rfl ?_
                refine WL.move rfl rfl ?_
                refine WL.idxArr Try.underlying54 Try.sizeOf3 rfl rfl (by omega) (by omega) (by first | exact rfl | exact (Int.toNat_of_nonneg (by omega)).symm) rfl ?_
                refine WL.move rfl rfl ?_
                refine WL.move rfl rfl ?_
                refine WL.idxA Try.underlying22 Try.sizeOf3 rfl rfl (RdL.isSome (E := intE) (by first | with_reducible assumption | with_reducible exact RdL.mem (by with_reducible assumption) M | exact M.rdL (by first | ((repeat (first | with_reducible exact Has.here | with_reducible refine Has.there ?_)); done) | (repeat (first | exact Has.here | refine Has.there ?_))) | exact RdLH.at (by assumption) (M.sel (by first | ((repeat (first | with_reducible exact Sel.refl | with_reducible exact Sel.nil | with_reducible exact Del.here | with_reducible apply Del.there | with_reducible apply Sel.cons | with_reducible apply Sel.drop)); done) | (repeat (first | exact Sel.refl | exact Sel.nil | exact Del.here | apply Del.there | apply Sel.cons | apply Sel.drop)))) | exact RdL.nil _ _ _) (by omega)) (by omega) (by omega) (by first | exact rfl | exact (Int.toNat_of_nonneg (by omega)).symm) rfl ?_
                refine WL.move rfl rfl ?_
                refine WL.move rfl rfl ?_
                refine WL.idxA Try.underlying22 Try.sizeOf3 rfl rfl (RdL.isSome (E := intE) (by first | with_reducible assumption | with_reducible exact RdL.mem (by with_reducible assumption) M | exact M.rdL (by first | ((repeat (first | with_reducible exact Has.here | with_reducible refine Has.there ?_)); done) | (repeat (first | exact Has.here | refine Has.there ?_))) | exact RdLH.at (by assumption) (M.sel (by first | ((repeat (first | with_reducible exact Sel.refl | with_reducible exact Sel.nil | with_reducible exact Del.here | with_reducible apply Del.there | with_reducible apply Sel.cons | with_reducible apply Sel.drop)); done) | (repeat (first | exact Sel.refl | exact Sel.nil | exact Del.here | apply Del.there | apply Sel.cons | apply Sel.drop)))) | exact RdL.nil _ _ _) (by omega)) (by omega) (by omega) (by first | exact rfl | exact (Int.toNat_of_nonneg (by omega)).symm) rfl ?_
                refine WL.move rfl rfl ?_
                refine WL.move rfl rfl ?_
                refine WL.idxA Try.underlying22 Try.sizeOf3 rfl rfl (RdL.isSome (E := intE) (by first | with_reducible assumption | with_reducible exact RdL.mem (by with_reducible assumption) M | exact M.rdL (by first | ((repeat (first | with_reducible exact Has.here | with_reducible refine Has.there ?_)); done) | (repeat (first | exact Has.here | refine Has.there ?_))) | exact RdLH.at (by assumption) (M.sel (by first | ((repeat (first | with_reducible exact Sel.refl | with_reducible exact Sel.nil | with_reducible exact Del.here | with_reducible apply Del.there | with_reducible apply Sel.cons | with_reducible apply Sel.drop)); done) | (repeat (first | exact Sel.refl | exact Sel.nil | exact Del.here | apply Del.there | apply Sel.cons | apply Sel.drop)))) | exact RdL.nil _ _ _) (by omega)) (by omega) (by omega) (by first | exact rfl | exact (Int.toNat_of_nonneg (by omega)).symm) rfl ?_
                refine WL.move rfl rfl ?_
                refine WL.move rfl rfl ?_
                refine WL.move rfl rfl ?_
                refine WL.idxA Try.underlying22 Try.sizeOf3 rfl rfl (RdL.isSome (E := intE) (by first | with_reducible assumption | with_reducible exact RdL.mem (by with_reducible assumption) M | exact M.rdL (by first | ((repeat (first | with_reducible exact Has.here | with_reducible refine Has.there ?_)); done) | (repeat (first | exact Has.here | refine Has.there ?_))) | exact RdLH.at (by assumption) (M.sel (by first | ((repeat (first | with_reducible exact Sel.refl | with_reducible exact Sel.nil | with_reducible exact Del.here | with_reducible apply Del.there | with_reducible apply Sel.cons | with_reducible apply Sel.drop)); done) | (repeat (first | exact Sel.refl | exact Sel.nil | exact Del.here | apply Del.there | apply Sel.cons | apply Sel.drop)))) | exact RdL.nil _ _ _) (by omega)) (by omega) (by omega) (by first | exact rfl | exact (Int.toNat_of_nonneg (by omega)).symm) rfl ?_
                refine WL.move rfl rfl ?_
                refine WL.move rfl rfl ?_
                refine WL.move rfl rfl ?_
                refine WL.idxA Try.underlying22 Try.sizeOf3 rfl rfl (RdL.isSome (E := intE) (by first | with_reducible assumption | with_reducible exact RdL.mem (by with_reducible assumption) M | exact M.rdL (by first | ((repeat (first | with_reducible exact Has.here | with_reducible refine Has.there ?_)); done) | (repeat (first | exact Has.here | refine Has.there ?_))) | exact RdLH.at (by assumption) (M.sel (by first | ((repeat (first | with_reducible exact Sel.refl | with_reducible exact Sel.nil | with_reducible exact Del.here | with_reducible apply Del.there | with_reducible apply Sel.cons | with_reducible apply Sel.drop)); done) | (repeat (first | exact Sel.refl | exact Sel.nil | exact Del.here | apply Del.there | apply Sel.cons | apply Sel.drop)))) | exact RdL.nil _ _ _) (by omega)) (by omega) (by omega) (by first | exact rfl | exact (Int.toNat_of_nonneg (by omega)).symm) rfl ?_
                exact Chain.end_ rfl
              apply DG.take [2, 6, 7, 10, 14, 15, 16, 20, 24, 25, 30, 31, 32, 37, 38, 39, 40] 0 rfl (by kernel_rfl) (by kernel_rfl) (M.sel (by first | ((repeat (first | with_reducible exact Sel.refl | with_reducible exact Sel.nil | with_reducible exact Del.here | with_reducible apply Del.there | with_reducible apply Sel.cons | with_reducible apply Sel.drop)); done) | (repeat (first | exact Sel.refl | exact Sel.nil | exact Del.here | apply Del.there | apply Sel.cons | apply Sel.drop))))
              · intro w M
                refine WL.loadE0 (E := arrE) (A := some ⟨g4_0, 0, none⟩) (j := a) Try.isAgg3 rfl (by first | with_reducible assumption | with_reducible exact RdL.mem (by with_reducible assumption) M | exact M.rdL (by first | ((repeat (first | with_reducible exact Has.here | with_reducible refine Has.there ?_)); done) | (repeat (first | exact Has.here | refine Has.there ?_))) | exact RdLH.at (by assumption) (M.sel (by first | ((repeat (first | with_reducible exact Sel.refl | with_reducible exact Sel.nil | with_reducible exact Del.here | with_reducible apply Del.there | with_reducible apply Sel.cons | with_reducible apply Sel.drop)); done) | (repeat (first | exact Sel.refl | exact Sel.nil | exact Del.here | apply Del.there | apply Sel.cons | apply Sel.drop)))) | exact RdL.nil _ _ _) (by omega) rfl rfl ?_
                refine WL.loadE0 (E := intE) Try.isAgg3 rfl (by first | with_reducible assumption | with_reducible exact RdL.mem (by with_reducible assumption) M | exact M.rdL (by first | ((repeat (first | with_reducible exact Has.here | with_reducible refine Has.there ?_)); done) | (repeat (first | exact Has.here | refine Has.there ?_))) | exact RdLH.at (by assumption) (M.sel (by first | ((repeat (first | with_reducible exact Sel.refl | with_reducible exact Sel.nil | with_reducible exact Del.here | with_reducible apply Del.there | with_reducible apply Sel.cons | with_reducible apply Sel.drop)); done) | (repeat (first | exact Sel.refl | exact Sel.nil | exact Del.here | apply Del.there | apply Sel.cons | apply Sel.drop)))) | exact RdL.nil _ _ _) (by omega) rfl rfl ?_
                refine WL.mul rfl rfl (by first | exact wI64 (by omega) | rfl) rfl ?_
                refine WL.loadE0 (E := arrE) (A := some ⟨g4_0, 0, none⟩) (j := b) Try.isAgg3 rfl (by first | with_reducible assumption | with_reducible exact RdL.mem (by with_reducible assumption) M | exact M.rdL (by first | ((repeat (first | with_reducible exact Has.here | with_reducible refine Has.there ?_)); done) | (repeat (first | exact Has.here | refine Has.there ?_))) | exact RdLH.at (by assumption) (M.sel (by first | ((repeat (first | with_reducible exact Sel.refl | with_reducible exact Sel.nil | with_reducible exact Del.here | with_reducible apply Del.there | with_reducible apply Sel.cons | with_reducible apply Sel.drop)); done) | (repeat (first | exact Sel.refl | exact Sel.nil | exact Del.here | apply Del.there | apply Sel.cons | apply Sel.drop)))) | exact RdL.nil _ _ _) (by omega) rfl rfl ?_
                refine WL.loadE0 (E := intE) Try.isAgg3 rfl (by first | with_reducible assumption | with_reducible exact RdL.mem (by with_reducible assumption) M | exact M.rdL (by first | ((repeat (first | with_reducible exact Has.here | with_reducible refine Has.there ?_)); done) | (repeat (first | exact Has.here | refine Has.there ?_))) | exact RdLH.at (by assumption) (M.sel (by first | ((repeat (first | with_reducible exact Sel.refl | with_reducible exact Sel.nil | with_reducible exact Del.here | with_reducible apply Del.there | with_reducible apply Sel.cons | with_reducible apply Sel.drop)); done) | (repeat (first | exact Sel.refl | exact Sel.nil | exact Del.here | apply Del.there | apply Sel.cons | apply Sel.drop)))) | exact RdL.nil _ _ _) (by omega) rfl rfl ?_
                refine WL.mul rfl rfl (by first | exact wI64 (by omega) | rfl) rfl ?_
                refine WL.sub' rfl rfl (by first | exact wI64 (by omega) | rfl) rfl ?_
                refine WL.loadE0 (E := intE) Try.isAgg3 rfl (by first | with_reducible assumption | with_reducible exact RdL.mem (by with_reducible assumption) M | exact M.rdL (by first | ((repeat (first | with_reducible exact Has.here | with_reducible refine Has.there ?_)); done) | (repeat (first | exact Has.here | refine Has.there ?_))) | exact RdLH.at (by assumption) (M.sel (by first | ((repeat (first | with_reducible exact Sel.refl | with_reducible exact Sel.nil | with_reducible exact Del.here | with_reducible apply Del.there | with_reducible apply Sel.cons | with_reducible apply Sel.drop)); done) | (repeat (first | exact Sel.refl | exact Sel.nil | exact Del.here | apply Del.there | apply Sel.cons | apply Sel.drop)))) | exact RdL.nil _ _ _) (by omega) rfl rfl ?_
                refine WL.loadE0 (E := intE) Try.isAgg3 rfl (by first | with_reducible assumption | with_reducible exact RdL.mem (by with_reducible assumption) M | exact M.rdL (by first | ((repeat (first | with_reducible exact Has.here | with_reducible refine Has.there ?_)); done) | (repeat (first | exact Has.here | refine Has.there ?_))) | exact RdLH.at (by assumption) (M.sel (by first | ((repeat (first | with_reducible exact Sel.refl | with_reducible exact Sel.nil | with_reducible exact Del.here | with_reducible apply Del.there | with_reducible apply Sel.cons | with_reducible apply Sel.drop)); done) | (repeat (first | exact Sel.refl | exact Sel.nil | exact Del.here | apply Del.there | apply Sel.cons | apply Sel.drop)))) | exact RdL.nil _ _ _) (by omega) rfl rfl ?_
                refine WL.mul rfl rfl (by first | exact wI64 (by omega) | rfl) rfl ?_
                refine WL.loadE0 (E := intE) Try.isAgg3 rfl (by first | with_reducible assumption | with_reducible exact RdL.mem (by with_reducible assumption) M | exact M.rdL (by first | ((repeat (first | with_reducible exact Has.here | with_reducible refine Has.there ?_)); done) | (repeat (first | exact Has.here | refine Has.there ?_))) | exact RdLH.at (by assumption) (M.sel (by first | ((repeat (first | with_reducible exact Sel.refl | with_reducible exact Sel.nil | with_reducible exact Del.here | with_reducible apply Del.there | with_reducible apply Sel.cons | with_reducible apply Sel.drop)); done) | (repeat (first | exact Sel.refl | exact Sel.nil | exact Del.here | apply Del.there | apply Sel.cons | apply Sel.drop)))) | exact RdL.nil _ _ _) (by omega) rfl rfl ?_
                refine WL.mul rfl rfl (by first | exact wI64 (by omega) | rfl) rfl ?_
                refine WL.add rfl rfl (by first | exact wI64 (by omega) | rfl) rfl ?_
                refine WL.loadE0 (E := intE) Try.isAgg3 rfl (by first | with_reducible assumption | with_reducible exact RdL.mem (by with_reducible assumption) M | exact M.rdL (by first | ((repeat (first | with_reducible exact Has.here | with_reducible refine Has.there ?_)); done) | (repeat (first | exact Has.here | refine Has.there ?_))) | exact RdLH.at (by assumption) (M.sel (by first | ((repeat (first | with_reducible exact Sel.refl | with_reducible exact Sel.nil | with_reducible exact Del.here | with_reducible apply Del.there | with_reducible apply Sel.cons | with_reducible apply Sel.drop)); done) | (repeat (first | exact Sel.refl | exact Sel.nil | exact Del.here | apply Del.there | apply Sel.cons | apply Sel.drop)))) | exact RdL.nil _ _ _) (by omega) rfl rfl ?_
                refine WL.mul rfl rfl (by first | exact wI64 (by omega) | rfl) rfl ?_
                refine WL.add rfl rfl (by first | exact wI64 (by omega) | rfl) rfl ?_
                refine WL.gtr rfl rfl rfl ?_
                exact Chain.end_ rfl
              refine DG.end_ (by kernel_rfl) ?_
              refine WX.next ?_
              refine W.sub [(2, _), (7, _), (8, _), (9, _), (10, _), (14, _), (17, _), (18, _), (141, _)] (.cons rfl (.cons rfl (.cons rfl (.cons rfl (.cons rfl (.cons rfl (.cons rfl (.cons rfl (.cons rfl .nil))))))))) ?_
              refine W.ite rfl (fun c10 => ?_) (fun c10 => ?_)
              · exact absurd hfair (by omega)
              · refine W.skip ?_
                refine WX.blockNormal ?_
                refine WX.next ?_
                refine W.region ?_
                refine WL.move rfl rfl ?_
                refine WL.add rfl rfl (by first | exact wI64 (by omega) | rfl) rfl ?_
                refine WL.assign rfl rfl ?_
                refine WL.nil ?_
                refine WX.round (b + 1) (by (repeat' (first | exact envSub.nil | refine envSub.cons ?_ ?_)) <;> first | rfl | (refine congrArg some ?_; refine congrArg (Value.int _) ?_; first | omega | (dsimp only; omega)) | (simp; done) | (refine congrArg some ?_; dsimp only; congr 1; omega) | (simp; omega)) ⟨M.sel (by first | ((repeat (first | with_reducible exact Sel.refl | with_reducible exact Sel.nil | with_reducible exact Del.here | with_reducible apply Del.there | with_reducible apply Sel.cons | with_reducible apply Sel.drop)); done) | (repeat (first | exact Sel.refl | exact Sel.nil | exact Del.here | apply Del.there | apply Sel.cons | apply Sel.drop))), by omega⟩ (by first | omega | (dsimp only; omega))
            · refine W.exit ?_
              refine WX.thenExit ?_
              refine WX.thenExit ?_
              refine WX.blockHere ?_
              refine WX.blockNormal ?_
              refine WX.next ?_
              refine W.region ?_
              refine WL.move rfl rfl ?_
              refine WL.add rfl rfl (by first | exact wI64 (by omega) | rfl) rfl ?_
              refine WL.assign rfl rfl ?_
              refine WL.nil ?_
              refine WX.round (a + 1) (by (repeat' (first | exact envSub.nil | refine envSub.cons ?_ ?_)) <;> first | rfl | (refine congrArg some ?_; refine congrArg (Value.int _) ?_; first | omega | (dsimp only; omega)) | (simp; done) | (refine congrArg some ?_; dsimp only; congr 1; omega) | (simp; omega)) ⟨M.sel (by first | ((repeat (first | with_reducible exact Sel.refl | with_reducible exact Sel.nil | with_reducible exact Del.here | with_reducible apply Del.there | with_reducible apply Sel.cons | with_reducible apply Sel.drop)); done) | (repeat (first | exact Sel.refl | exact Sel.nil | exact Del.here | apply Del.there | apply Sel.cons | apply Sel.drop))), by omega⟩ (by first | omega | (dsimp only; omega))
          · refine W.exit ?_
            refine WX.thenExit ?_
            refine WX.thenExit ?_
            refine WX.blockHere ?_
            refine WX.blockNormal ?_
            refine WX.next ?_
            refine W.region ?_
            refine WL.move rfl rfl ?_
            refine WL.add rfl rfl (by first | exact wI64 (by omega) | rfl) rfl ?_
            refine WL.assign rfl rfl ?_
            refine WL.nil ?_
            refine WX.round ((i + 1, x2, G2)) (by (repeat' (first | exact envSub.nil | refine envSub.cons ?_ ?_)) <;> first | rfl | (refine congrArg some ?_; refine congrArg (Value.int _) ?_; first | omega | (dsimp only; omega)) | (simp; done) | (refine congrArg some ?_; dsimp only; congr 1; omega) | (simp; omega)) ⟨M.sel (by first | ((repeat (first | with_reducible exact Sel.refl | with_reducible exact Sel.nil | with_reducible exact Del.here | with_reducible apply Del.there | with_reducible apply Sel.cons | with_reducible apply Sel.drop)); done) | (repeat (first | exact Sel.refl | exact Sel.nil | exact Del.here | apply Del.there | apply Sel.cons | apply Sel.drop))), ⟨by dsimp only; omega, ho2, hQ2⟩⟩ (by first | omega | (dsimp only; omega))
    · refine W.exit ?_
      refine WX.thenExit ?_
      refine WX.thenExit ?_
      refine WX.blockHere ?_
      refine WX.next ?_
      refine W.seq ?_
      refine W.region ?_
      refine WL.call Try.call16 rfl (known21_ok _) rfl ?_
      rintro _ w ⟨rfl, m⟩
      replace M := M.call0 m; clear m
      refine WL.assign rfl rfl ?_
      refine WL.nil ?_
      refine WX.next ?_
      refine W.sub [(6, _)] (.cons rfl .nil) ?_
      refine W.ret ?_
      refine WX.ret1 rfl rfl ?_
      exact ⟨rfl, M.sel (by first | ((repeat (first | with_reducible exact Sel.refl | with_reducible exact Sel.nil | with_reducible exact Del.here | with_reducible apply Del.there | with_reducible apply Sel.cons | with_reducible apply Sel.drop)); done) | (repeat (first | exact Sel.refl | exact Sel.nil | exact Del.here | apply Del.there | apply Sel.cons | apply Sel.drop)))⟩
end Go.Proofs.Ytdhmopmfnnlhcaa
