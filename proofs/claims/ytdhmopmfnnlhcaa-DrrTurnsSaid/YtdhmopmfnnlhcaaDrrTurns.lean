/-
  Walk: a job that is first in its flow (seawalllaw21.DrrTurns).
-/
import Derived.Test.YtdhmopmfnnlhcaaDrrFair
namespace Go.Proofs.Ytdhmopmfnnlhcaa
open Go Go.RowKit

theorem pop_n {s : Sd} (h : Ok s) (hn : nJ s.fl ≠ 0) : nJ (popS s).fl + 1 = nJ s.fl := by
  obtain ⟨a, b, c, d⟩ := h.pop1 hn
  have e := pop1_nJ h hn
  have t := (a.take b c d).2
  unfold popS
  omega
def sumG : Nat → (Nat → Nat) → Int
  | 0, _ => 0
  | n + 1, g => sumG n g + (g n : Int)
def bndS (sh : List Int) (me : Nat) (R : Int) : Nat → Int
  | 0 => 0
  | k + 1 => bndS sh me R k + (if k = me then 0 else R * el sh k + 120)
theorem sumG_out (k c : Nat) (g : Nat → Nat) : ∀ n, n ≤ k → sumG n (fun i => if i = k then g i + c else g i) = sumG n g
  | 0, _ => rfl
  | n + 1, h => by
    unfold sumG
    rw [sumG_out k c g n (by omega)]
    dsimp only
    rw [if_neg (by omega)]
theorem sumG_set (k c : Nat) (g : Nat → Nat) : ∀ n, k < n → sumG n (fun i => if i = k then g i + c else g i) = sumG n g + (c : Int)
  | 0, h => absurd h (Nat.not_lt_zero _)
  | n + 1, h => by
    unfold sumG
    by_cases e : n = k
    · rw [sumG_out k c g n (by omega)]
      dsimp only
      rw [if_pos e]
      omega
    · rw [sumG_set k c g n (by omega)]
      dsimp only
      rw [if_neg e]
      omega
theorem sumG_zero : ∀ n, sumG n (fun _ => 0) = 0
  | 0 => rfl
  | n + 1 => by unfold sumG; rw [sumG_zero n]; rfl
theorem sumG_le {sh : List Int} {me : Nat} {R : Int} {g : Nat → Nat} (hm : g me = 0) : ∀ n, (∀ i, i < n → i ≠ me → (g i : Int) ≤ R * el sh i) → sumG n g ≤ bndS sh me R n
  | 0, _ => Int.le_refl _
  | n + 1, h => by
    unfold sumG bndS
    have ih := sumG_le hm n (fun i hi => h i (by omega))
    by_cases e : n = me
    · rw [if_pos e]
      subst e
      rw [hm]
      omega
    · rw [if_neg e]
      have := h n (by omega) e
      omega
/-- The job that is looked for. -/
def mineX (me : Nat) : JX := ⟨(me : Int), 120, 77⟩
structure TurnQ (s : Sd) (sh : List Int) (me : Nat) (spent : Int) (i : Nat) : Prop where
  turns : ∃ b got, Turns s b got ∧ got me = 0 ∧ spent = sumG sh.length got
  len : s.fl.length = sh.length
  share : ∀ y, y < sh.length → (el s.fl y).share = el sh y
  jobs : (el s.fl me).jobs = [mineX me]
  n : nJ s.fl + i ≤ 201
  lo : 0 ≤ spent ∧ spent ≤ 100000 * i
def rnds (sh : List Int) (me : Nat) : Int := (120 + el sh me - 1) / el sh me + 1
theorem FairP.mine {s : Sd} {sh : List Int} {c : Nat → Nat} {t : Nat} {m : Int} (h : FairP s sh c t m) {me : Nat} (hme : me < sh.length) (hc : c me = 0) (ht : t ≤ 200) : TurnQ (pushS s (mineX me)) sh me 0 0 := by
  obtain ⟨h1, h2, h3, h4, h5⟩ := push_says (s := s) (j := mineX me) (k := me) rfl (by rw [h.len]; exact hme) (by unfold mineX; dsimp only; omega) (by rw [h.n]; omega)
  have h0 : (el s.fl me).jobs = [] := List.eq_nil_of_length_eq_zero (by rw [h.cnt me hme, hc])
  have hcr : ∀ k, k < (pushS s (mineX me)).fl.length → (el (pushS s (mineX me)).fl k).credit = 0 := by
    intro k hk
    rw [h3, h.len] at hk
    rw [h2]
    split
    · exact h.cr me hme
    · exact h.cr k hk
  refine ⟨⟨_, _, Turns.start (h.ok.push _) hcr, rfl, (sumG_zero _).symm⟩, by rw [h3, h.len], ?_, ?_, by rw [h5, h.n]; omega, by omega⟩
  · intro y hy
    rw [h2]
    split
    · rename_i e; subst e; exact h.share _ hy
    · exact h.share y hy
  · rw [h2, if_pos rfl]
    dsimp only
    rw [h0]
    rfl
theorem TurnQ.pop {s : Sd} {sh : List Int} {me : Nat} {spent : Int} {i : Nat} (h : TurnQ s sh me spent i) (hme : me < sh.length) {k : Nat} {js : List JX} (hp : Popped s k js) (hk : k ≠ me) :
    TurnQ (popS s) sh me (spent + (popJ s).cost) (i + 1) ∧ spent + (popJ s).cost ≤ bndS sh me (rnds sh me) sh.length := by
  obtain ⟨⟨b, got, ht, hg, hsp⟩, hl, hsh, hj, hn, hlo⟩ := h
  have hn0 : nJ s.fl ≠ 0 := nJ_ne me (by omega) (by rw [hj]; simp)
  obtain ⟨b', _, ht'⟩ := ht.pop hn0 hp
  have hkl : k < sh.length := by rw [← hl]; exact hp.lt
  have hco := hp.cost
  have hg' : (fun i => if i = k then got i + (popJ s).cost.toNat else got i) me = 0 := by
    dsimp only
    rw [if_neg (fun e => hk e.symm)]
    exact hg
  have hjm : (el (popS s).fl me).jobs = [mineX me] := by rw [hp.rest me (fun e => hk e.symm)]; exact hj
  have hsum : spent + (popJ s).cost = sumG sh.length (fun i => if i = k then got i + (popJ s).cost.toNat else got i) := by
    rw [sumG_set k _ got _ hkl, ← hsp]
    omega
  have hsh' : ∀ y, y < sh.length → (el (popS s).fl y).share = el sh y := fun y hy => by rw [hp.share]; exact hsh y hy
  refine ⟨⟨⟨b', _, ht', hg', hsum⟩, by rw [hp.len, hl], hsh', hjm, by have := pop_n ht.ok hn0; omega, by omega⟩, ?_⟩
  rw [hsum]
  refine sumG_le (me := me) (g := fun i => if i = k then got i + (popJ s).cost.toNat else got i) hg' _ fun y hy hym => ?_
  have hw := ht'.wait (me := me) (by rw [hp.len]; omega) (by rw [hjm]; simp) hg' (by rw [hjm]; rfl) ?_ (k := y) (by rw [hp.len]; omega) hym
  · rw [hsh' me hme, hsh' y hy] at hw
    exact hw
  · rintro ⟨h1, h2⟩
    rw [hp.on] at h1
    have hjs : js ≠ [] := by simpa using h1
    exact hk ((hp.hd hjs).symm.trans h2)
theorem TurnQ.mine {s : Sd} {sh : List Int} {me : Nat} {spent : Int} {i : Nat} (h : TurnQ s sh me spent i) {k : Nat} {js : List JX} (hp : Popped s k js) : (k = me → popJ s = mineX me) ∧ (k ≠ me → popJ s ≠ mineX me) := by
  constructor
  · rintro rfl
    have := hp.was
    rw [h.jobs] at this
    injection this with e1 e2
    exact e1.symm
  · intro hk e
    have := hp.flow
    rw [e] at this
    unfold mineX at this
    dsimp only at this
    omega
theorem rnds_bd {sh : List Int} {me : Nat} (h : 1 ≤ el sh me ∧ el sh me ≤ 50) : 0 ≤ rnds sh me ∧ rnds sh me ≤ 121 := by
  unfold rnds
  have h1 : 0 ≤ (120 + el sh me - 1) / el sh me := Int.ediv_nonneg (by omega) (by omega)
  have h2 : (120 + el sh me - 1) / el sh me ≤ 120 := by
    exact Int.ediv_le_of_le_mul (by omega) (by omega)
  omega

set_option maxRecDepth 10000 in
set_option maxHeartbeats 4000000 in
theorem DrrTurns_ok (A0 : Option Addr) (k0 : Nat) (l0 : List Int) (A1 : Option Addr) (k1 : Nat) (l : List JX) (flow : Int) (w0 : World) (h0 : RdL w0 intE A0 k0 l0) (h1 : RdL w0 jobE A1 k1 l) :
    Fn Try.prog 4 [.slice A0 l0.length k0, .slice A1 l.length k1, .int .i64 flow] w0 fun v w' => v = .bool true ∧ Mem w0 w' [] := by
  have M := Mem.refl w0
  obtain ⟨w, hw⟩ : ∃ w, w = w0 := ⟨w0, rfl⟩
  obtain ⟨a0, ha0⟩ : ∃ a : Nat, IntKind.u64.wrap flow = (a : Int) := ⟨(flow % 18446744073709551616).toNat, by rw [mU64]; omega⟩
  refine Fn.enter Try.func4 rfl Try.ntmps4 rfl ?_
  refine W.sub [(0, _), (1, _), (2, _)] (.cons rfl (.cons rfl (.cons rfl .nil))) ?_
  refine W.seq ?_
  refine W.region ?_
  refine WL.assign rfl rfl ?_
  refine WL.nil ?_
  refine WX.next ?_
  refine W.sub [(0, _), (1, _), (2, _)] (.cons rfl (.cons rfl (.cons rfl .nil))) ?_
  refine W.seq ?_
  refine W.region ?_
  refine WL.move rfl rfl ?_
  refine WL.call Try.call10 rfl (sched_ok (h0.mem M)) rfl ?_
  rintro _ w ⟨x, B, cB, rfl, hxs, hxo, m⟩
  replace M := M.callN m; clear m
  rw [List.append_nil] at M
  have hS := schedL_ok l0
  have hSe := @schedL_el l0
  have hP0 := FairP.start (schedL_good l0)
  rw [← hxs] at hP0
  generalize schedL l0 = sh at M hS hSe hP0 hxs ⊢
  have hme := Nat.mod_lt a0 (show 0 < sh.length by omega)
  refine WL.move rfl rfl ?_
  refine WL.extractL rfl rfl rfl ?_
  refine WL.extractL rfl rfl rfl ?_
  refine WL.assign rfl rfl ?_
  refine WL.assign rfl rfl ?_
  refine WL.nil ?_
  refine WX.next ?_
  refine W.sub [(1, _), (2, _), (7, _), (8, _)] (.cons rfl (.cons rfl (.cons rfl (.cons rfl .nil)))) ?_
  refine W.seq ?_
  refine W.seq ?_
  refine W.region ?_
  refine WL.move rfl rfl ?_
  refine WL.eqNilF Try.underlying24 rfl rfl rfl ?_
  refine WL.nil ?_
  refine WX.next ?_
  refine W.sub [(1, _), (2, _), (7, _), (8, _), (26, _)] (.cons rfl (.cons rfl (.cons rfl (.cons rfl (.cons rfl .nil))))) ?_
  refine W.condF rfl ?_
  refine W.skip ?_
  refine WX.next ?_
  refine W.seq ?_
  refine W.region ?_
  refine WL.move rfl rfl ?_
  refine WL.conv Try.underlying3 Try.underlying43 rfl ha0 rfl ?_
  refine WL.move rfl rfl ?_
  refine WL.len Try.underlying22 rfl rfl ?_
  refine WL.conv Try.underlying3 Try.underlying43 rfl (by first | exact wU64 (by omega) | exact mU64 _ | rfl) rfl ?_
  refine WL.rem rfl rfl (by omega) (remN (by omega)) rfl ?_
  refine WL.conv Try.underlying43 Try.underlying3 rfl (by first | exact wI64 (by omega) | rfl) rfl ?_
  refine WL.assign rfl rfl ?_
  refine WL.nil ?_
  refine WX.next ?_
  refine W.sub [(1, _), (7, _), (8, _), (9, _)] (.cons rfl (.cons rfl (.cons rfl (.cons rfl .nil)))) ?_
  refine W.seq ?_
  refine W.seq ?_
  rw [← Int.natCast_emod]
  generalize a0 % sh.length = me at hme ⊢
  refine W.region ?_
  refine WL.assign rfl rfl ?_
  refine WL.nil ?_
  refine WX.next ?_
  refine W.sub [(1, _), (7, _), (8, _), (9, _), (10, _)] (.cons rfl (.cons rfl (.cons rfl (.cons rfl (.cons rfl .nil))))) ?_
  refine W.block ?_
  refine W.loop (ι := Nat × SdX) (fun z => [(1, .slice A1 l.length k1), (7, .pointer (some ⟨z.2.g, 0, none⟩)), (8, .slice B sh.length cB), (9, .int .i64 (me : Int)), (10, .int .i64 (z.1 : Int))]) (fun zz w => Mem w0 w ((fun z => z.2.L ++ [Asr.lst intE B cB sh]) zz) ∧ (fun z => z.1 ≤ 200 ∧ z.2.ok ∧ ∃ c t m, FairP z.2.s sh c t m ∧ c me = 0 ∧ t ≤ z.1) zz) (fun z => 200 - z.1) ((0, x)) (by (repeat' (first | exact envSub.nil | refine envSub.cons ?_ ?_)) <;> first | rfl | (refine congrArg some ?_; refine congrArg (Value.int _) ?_; first | omega | (dsimp only; omega)) | (simp; done) | (refine congrArg some ?_; dsimp only; congr 1; omega) | (simp; omega)) ⟨M.sel (by first | ((repeat (first | with_reducible exact Sel.refl | with_reducible exact Sel.nil | with_reducible exact Del.here | with_reducible apply Del.there | with_reducible apply Sel.cons | with_reducible apply Sel.drop)); done) | (repeat (first | exact Sel.refl | exact Sel.nil | exact Del.here | apply Del.there | apply Sel.cons | apply Sel.drop))), ⟨by simp, hxo, _, _, _, hP0, rfl, Nat.le_refl _⟩⟩ ?_
  clear M; rintro (⟨i, x⟩) w ⟨M, ⟨hi, hxo, c, t, m0, hP, hc, ht⟩⟩; dsimp only at M hi hxo c t m0 hP hc ht ⊢
  refine W.sub [(1, _), (7, _), (8, _), (9, _), (10, _)] (.cons rfl (.cons rfl (.cons rfl (.cons rfl (.cons rfl .nil))))) ?_
  refine W.seq ?_
  refine W.seq ?_
  refine W.region ?_
  refine WL.move rfl rfl ?_
  refine WL.move rfl rfl ?_
  refine WL.len Try.underlying27 rfl rfl ?_
  refine WL.lss rfl rfl rfl ?_
  refine WL.moveIf rfl rfl (fun c1 => ?_) (fun c1 => ?_)
  · refine WL.on rfl rfl ?_
    refine WL.move rfl rfl ?_
    refine WL.on rfl rfl ?_
    refine WL.lss rfl rfl rfl ?_
    refine WL.pickT rfl rfl rfl ?_
    refine WL.nil ?_
    refine WX.next ?_
    refine W.sub [(1, _), (7, _), (8, _), (9, _), (10, _), (41, _)] (.cons rfl (.cons rfl (.cons rfl (.cons rfl (.cons rfl (.cons rfl .nil)))))) ?_
    refine W.ite rfl (fun c2 => ?_) (fun c2 => ?_)
    · have hjx := jobX_ok (el l i) (n := sh.length) hS.1
      refine W.skip ?_
      refine WX.next ?_
      refine W.seq ?_
      refine W.block ?_
      refine W.seq ?_
      refine W.region ?_
      refine WL.move rfl rfl ?_
      refine WL.move rfl rfl ?_
      refine WL.idxA Try.underlying27 Try.sizeOf31 rfl rfl (RdL.isSome (E := jobE) (by first | with_reducible assumption | with_reducible exact RdL.mem (by with_reducible assumption) M | exact M.rdL (by first | ((repeat (first | with_reducible exact Has.here | with_reducible refine Has.there ?_)); done) | (repeat (first | exact Has.here | refine Has.there ?_))) | exact RdLH.at (by assumption) (M.sel (by first | ((repeat (first | with_reducible exact Sel.refl | with_reducible exact Sel.nil | with_reducible exact Del.here | with_reducible apply Del.there | with_reducible apply Sel.cons | with_reducible apply Sel.drop)); done) | (repeat (first | exact Sel.refl | exact Sel.nil | exact Del.here | apply Del.there | apply Sel.cons | apply Sel.drop)))) | exact RdL.nil _ _ _) (by omega)) (by omega) (by omega) (by first | exact rfl | exact (Int.toNat_of_nonneg (by omega)).symm) rfl ?_
      refine WL.loadL (E := jobE) (cs := [_, _, _]) Try.isAgg31 Try.sizeOf31 rfl (by first | with_reducible assumption | with_reducible exact RdL.mem (by with_reducible assumption) M | exact M.rdL (by first | ((repeat (first | with_reducible exact Has.here | with_reducible refine Has.there ?_)); done) | (repeat (first | exact Has.here | refine Has.there ?_))) | exact RdLH.at (by assumption) (M.sel (by first | ((repeat (first | with_reducible exact Sel.refl | with_reducible exact Sel.nil | with_reducible exact Del.here | with_reducible apply Del.there | with_reducible apply Sel.cons | with_reducible apply Sel.drop)); done) | (repeat (first | exact Sel.refl | exact Sel.nil | exact Del.here | apply Del.there | apply Sel.cons | apply Sel.drop)))) | exact RdL.nil _ _ _) rfl (by omega) rfl rfl ?_
      refine WL.move rfl rfl ?_
      refine WL.len Try.underlying22 rfl rfl ?_
      refine WL.call Try.call11 rfl (job_ok (el l i) sh.length (by omega) _) rfl ?_
      rintro _ w ⟨rfl, m⟩
      replace M := M.call0 m; clear m
      unfold JX.v
      refine WL.alloc Try.zeroValue31 M rfl ?_
      intro g8_7 w M
      try simp only [Value.cells] at M
      try simp only [List.toList_toArray] at M
      refine WL.storeWA Try.sizeOf31 rfl rfl (by repeat (first | exact oneNil | refine oneCons rfl ?_)) rfl rfl M (by first | ((repeat (first | with_reducible exact Upd.here | with_reducible apply Upd.there)); done) | (repeat (first | exact Upd.here | apply Upd.there))) ?_
      intro w M
      refine WL.nil ?_
      refine WX.next ?_
      refine W.sub [(1, _), (7, _), (8, _), (9, _), (10, _), (11, _)] (.cons rfl (.cons rfl (.cons rfl (.cons rfl (.cons rfl (.cons rfl .nil)))))) ?_
      refine W.seq ?_
      refine W.region ?_
      refine WL.fieldR (off := 0) Try.underlying31 rfl rfl Try.sizeOf3 rfl rfl rfl ?_
      refine WL.loadR Try.isAgg3 rfl M (by first | ((repeat (first | with_reducible exact Has.here | with_reducible refine Has.there ?_)); done) | (repeat (first | exact Has.here | refine Has.there ?_))) rfl rfl ?_
      refine WL.move rfl rfl ?_
      refine WL.neI rfl rfl rfl ?_
      refine WL.nil ?_
      refine WX.next ?_
      refine W.sub [(1, _), (7, _), (8, _), (9, _), (10, _), (11, _), (54, _)] (.cons rfl (.cons rfl (.cons rfl (.cons rfl (.cons rfl (.cons rfl (.cons rfl .nil))))))) ?_
      refine W.ite rfl (fun c3 => ?_) (fun c3 => ?_)
      · obtain ⟨kf, hkf⟩ : ∃ kf : Nat, (jobX (el l i) sh.length).flow = (kf : Int) := ⟨(jobX (el l i) sh.length).flow.toNat, by omega⟩
        obtain ⟨hpe, hP2⟩ := hP.push (by omega) (j := jobX (el l i) sh.length) (k := kf) hkf (by omega) hjx.2.2
        refine W.region ?_
        refine WL.move rfl rfl ?_
        refine WL.loadW Try.isAgg31 Try.sizeOf31 rfl M (by first | ((repeat (first | with_reducible exact Has.here | with_reducible refine Has.there ?_)); done) | (repeat (first | exact Has.here | refine Has.there ?_))) rfl rfl ?_
        refine WL.call Try.call12 rfl (Push1_ok x hxo (jobX (el l i) sh.length) w0 w _ (M.sel (K := x.L ++ [Asr.lst intE B cB sh]) (by first | ((repeat (first | with_reducible exact Sel.refl | with_reducible exact Sel.nil | with_reducible exact Del.here | with_reducible apply Del.there | with_reducible apply Sel.cons | with_reducible apply Sel.drop)); done) | (repeat (first | exact Sel.refl | exact Sel.nil | exact Del.here | apply Del.there | apply Sel.cons | apply Sel.drop))))) rfl ?_
        rintro _ w ⟨x2, rfl, hg2, hs2, ho2, M⟩
        rw [hg2]
        rw [← hs2] at hP2
        refine WL.nil ?_
        refine WX.blockNormal ?_
        refine WX.next ?_
        refine W.sub [(1, _), (7, _), (8, _), (9, _), (10, _)] (.cons rfl (.cons rfl (.cons rfl (.cons rfl (.cons rfl .nil))))) ?_
        refine W.region ?_
        refine WL.move rfl rfl ?_
        refine WL.add rfl rfl (by first | exact wI64 (by omega) | rfl) rfl ?_
        refine WL.assign rfl rfl ?_
        refine WL.nil ?_
        refine WX.round ((i + 1, x2)) (by (repeat' (first | exact envSub.nil | refine envSub.cons ?_ ?_)) <;> first | rfl | (refine congrArg some ?_; refine congrArg (Value.int _) ?_; first | omega | (dsimp only; omega)) | (simp; done) | (refine congrArg some ?_; dsimp only; congr 1; omega) | (simp; omega)) ⟨M.sel (by first | ((repeat (first | with_reducible exact Sel.refl | with_reducible exact Sel.nil | with_reducible exact Del.here | with_reducible apply Del.there | with_reducible apply Sel.cons | with_reducible apply Sel.drop)); done) | (repeat (first | exact Sel.refl | exact Sel.nil | exact Del.here | apply Del.there | apply Sel.cons | apply Sel.drop))), ⟨by dsimp only; omega, ho2, _, _, _, hP2, (by rw [if_neg (by omega)]; exact hc), by dsimp only; omega⟩⟩ (by first | omega | (dsimp only; omega))
      · refine W.skip ?_
        refine WX.blockNormal ?_
        refine WX.next ?_
        refine W.region ?_
        refine WL.move rfl rfl ?_
        refine WL.add rfl rfl (by first | exact wI64 (by omega) | rfl) rfl ?_
        refine WL.assign rfl rfl ?_
        refine WL.nil ?_
        refine WX.round ((i + 1, x)) (by (repeat' (first | exact envSub.nil | refine envSub.cons ?_ ?_)) <;> first | rfl | (refine congrArg some ?_; refine congrArg (Value.int _) ?_; first | omega | (dsimp only; omega)) | (simp; done) | (refine congrArg some ?_; dsimp only; congr 1; omega) | (simp; omega)) ⟨M.sel (by first | ((repeat (first | with_reducible exact Sel.refl | with_reducible exact Sel.nil | with_reducible exact Del.here | with_reducible apply Del.there | with_reducible apply Sel.cons | with_reducible apply Sel.drop)); done) | (repeat (first | exact Sel.refl | exact Sel.nil | exact Del.here | apply Del.there | apply Sel.cons | apply Sel.drop))), ⟨by dsimp only; omega, hxo, _, _, _, hP, hc, by dsimp only; omega⟩⟩ (by first | omega | (dsimp only; omega))
    · refine W.exit ?_
      refine WX.thenExit ?_
      refine WX.thenExit ?_
      refine WX.blockHere ?_
      refine WX.next ?_
      refine W.seq ?_
      refine W.region ?_
      refine WL.move rfl rfl ?_
      refine WL.buildP (places := #[(0, 1), (1, 1), (2, 1)]) Try.underlying31 Try.zeroValue31 (fun _ => by simp [Try.sizeOf3, Try.sizeOf3, Try.sizeOf29]) rfl (by repeat (first | exact Puts.nil | exact SetAt.zero | apply SetAt.succ | apply Puts.cons rfl rfl)) rfl ?_
      refine WL.alloc Try.zeroValue31 M rfl ?_
      intro g11_2 w M
      try simp only [Value.cells] at M
      try simp only [List.toList_toArray] at M
      refine WL.storeWA Try.sizeOf31 rfl rfl (by repeat (first | exact oneNil | refine oneCons rfl ?_)) rfl rfl M (by first | ((repeat (first | with_reducible exact Upd.here | with_reducible apply Upd.there)); done) | (repeat (first | exact Upd.here | apply Upd.there))) ?_
      intro w M
      refine WL.nil ?_
      refine WX.next ?_
      refine W.sub [(7, _), (8, _), (9, _), (12, _)] (.cons rfl (.cons rfl (.cons rfl (.cons rfl .nil)))) ?_
      refine W.seq ?_
      refine W.region ?_
      refine WL.move rfl rfl ?_
      refine WL.loadW Try.isAgg31 Try.sizeOf31 rfl M (by first | ((repeat (first | with_reducible exact Has.here | with_reducible refine Has.there ?_)); done) | (repeat (first | exact Has.here | refine Has.there ?_))) rfl rfl ?_
      refine WL.call Try.call12 rfl (Push1_ok x hxo (mineX me) w0 w _ (M.sel (K := x.L ++ (Asr.lst intE B cB sh :: [Asr.row g11_2 31 [.int .i64 (me : Int), .int .i64 120, .int .u64 77]])) (by first | ((repeat (first | with_reducible exact Sel.refl | with_reducible exact Sel.nil | with_reducible exact Del.here | with_reducible apply Del.there | with_reducible apply Sel.cons | with_reducible apply Sel.drop)); done) | (repeat (first | exact Sel.refl | exact Sel.nil | exact Del.here | apply Del.there | apply Sel.cons | apply Sel.drop))))) rfl ?_
      rintro _ w ⟨x2, rfl, hg2, hs2, ho2, M⟩
      rw [hg2]
      have hQ0 := hP.mine hme hc (by omega)
      rw [← hs2] at hQ0
      have hsm := hSe hme
      have hR := rnds_bd (sh := sh) (me := me) hsm
      refine WL.nil ?_
      refine WX.next ?_
      refine W.sub [(7, _), (8, _), (9, _), (12, _)] (.cons rfl (.cons rfl (.cons rfl (.cons rfl .nil)))) ?_
      refine W.seq ?_
      refine W.drawM ([Asr.lst intE B cB sh]) (by kernel_rfl) (fun j => [3, 4, 5, 9].contains j) M (by first | ((repeat (first | with_reducible exact Sel.refl | with_reducible exact Sel.nil | with_reducible exact Del.here | with_reducible apply Del.there | with_reducible apply Sel.cons | with_reducible apply Sel.drop)); done) | (repeat (first | exact Sel.refl | exact Sel.nil | exact Del.here | apply Del.there | apply Sel.cons | apply Sel.drop))) ?_
      clear M; intro M
      apply DG.pure_ [0, 1, 2, 6, 7, 8] 7 rfl (by kernel_rfl) (by kernel_rfl)
      · intro w
        refine WL.move rfl rfl ?_
        refine WL.move rfl rfl ?_
        refine WL.idxA Try.underlying22 Try.sizeOf3 rfl rfl (RdL.isSome (E := intE) (by first | with_reducible assumption | with_reducible exact RdL.mem (by with_reducible assumption) M | exact M.rdL (by first | ((repeat (first | with_reducible exact Has.here | with_reducible refine Has.there ?_)); done) | (repeat (first | exact Has.here | refine Has.there ?_))) | exact RdLH.at (by assumption) (M.sel (by first | ((repeat (first | with_reducible exact Sel.refl | with_reducible exact Sel.nil | with_reducible exact Del.here | with_reducible apply Del.there | with_reducible apply Sel.cons | with_reducible apply Sel.drop)); done) | (repeat (first | exact Sel.refl | exact Sel.nil | exact Del.here | apply Del.there | apply Sel.cons | apply Sel.drop)))) | exact RdL.nil _ _ _) (by omega)) (by omega) (by omega) (by first | exact rfl | exact (Int.toNat_of_nonneg (by omega)).symm) rfl ?_
        refine WL.move rfl rfl ?_
        refine WL.move rfl rfl ?_
        refine WL.idxA Try.underlying22 Try.sizeOf3 rfl rfl (RdL.isSome (E := intE) (by first | with_reducible assumption | with_reducible exact RdL.mem (by with_reducible assumption) M | exact M.rdL (by first | ((repeat (first | with_reducible exact Has.here | with_reducible refine Has.there ?_)); done) | (repeat (first | exact Has.here | refine Has.there ?_))) | exact RdLH.at (by assumption) (M.sel (by first | ((repeat (first | with_reducible exact Sel.refl | with_reducible exact Sel.nil | with_reducible exact Del.here | with_reducible apply Del.there | with_reducible apply Sel.cons | with_reducible apply Sel.drop)); done) | (repeat (first | exact Sel.refl | exact Sel.nil | exact Del.here | apply Del.there | apply Sel.cons | apply Sel.drop)))) | exact RdL.nil _ _ _) (by omega)) (by omega) (by omega) (by first | exact rfl | exact (Int.toNat_of_nonneg (by omega)).symm) rfl ?_
        exact Chain.end_ rfl
      apply DG.take [3, 4, 5, 9, 10, 11, 12] 0 rfl (by kernel_rfl) (by kernel_rfl) (M.sel (by first | ((repeat (first | with_reducible exact Sel.refl | with_reducible exact Sel.nil | with_reducible exact Del.here | with_reducible apply Del.there | with_reducible apply Sel.cons | with_reducible apply Sel.drop)); done) | (repeat (first | exact Sel.refl | exact Sel.nil | exact Del.here | apply Del.there | apply Sel.cons | apply Sel.drop))))
      · intro w M
        refine WL.loadE0 (E := intE) Try.isAgg3 rfl (by first | with_reducible assumption | with_reducible exact RdL.mem (by with_reducible assumption) M | exact M.rdL (by first | ((repeat (first | with_reducible exact Has.here | with_reducible refine Has.there ?_)); done) | (repeat (first | exact Has.here | refine Has.there ?_))) | exact RdLH.at (by assumption) (M.sel (by first | ((repeat (first | with_reducible exact Sel.refl | with_reducible exact Sel.nil | with_reducible exact Del.here | with_reducible apply Del.there | with_reducible apply Sel.cons | with_reducible apply Sel.drop)); done) | (repeat (first | exact Sel.refl | exact Sel.nil | exact Del.here | apply Del.there | apply Sel.cons | apply Sel.drop)))) | exact RdL.nil _ _ _) (by omega) rfl rfl ?_
        refine WL.add rfl rfl (by first | exact wI64 (by omega) | rfl) rfl ?_
        refine WL.sub' rfl rfl (by first | exact wI64 (by omega) | rfl) rfl ?_
        refine WL.loadE0 (E := intE) Try.isAgg3 rfl (by first | with_reducible assumption | with_reducible exact RdL.mem (by with_reducible assumption) M | exact M.rdL (by first | ((repeat (first | with_reducible exact Has.here | with_reducible refine Has.there ?_)); done) | (repeat (first | exact Has.here | refine Has.there ?_))) | exact RdLH.at (by assumption) (M.sel (by first | ((repeat (first | with_reducible exact Sel.refl | with_reducible exact Sel.nil | with_reducible exact Del.here | with_reducible apply Del.there | with_reducible apply Sel.cons | with_reducible apply Sel.drop)); done) | (repeat (first | exact Sel.refl | exact Sel.nil | exact Del.here | apply Del.there | apply Sel.cons | apply Sel.drop)))) | exact RdL.nil _ _ _) (by omega) rfl rfl ?_
        refine WL.quo rfl rfl (by omega) (quoI64 (by omega)) rfl ?_
        refine WL.add rfl rfl (show IntKind.i64.wrap ((120 + el sh me - 1) / el sh me + 1) = rnds sh me by rw [wI64 (by unfold rnds at hR; omega)]; rfl) rfl ?_
        refine WL.assign rfl rfl ?_
        exact Chain.end_ rfl
      refine DG.end_ (by kernel_rfl) ?_
      refine WX.next ?_
      refine W.sub [(7, _), (8, _), (9, _), (12, _), (13, _)] (.cons rfl (.cons rfl (.cons rfl (.cons rfl (.cons rfl .nil))))) ?_
      refine W.seq ?_
      refine W.region ?_
      refine WL.assign rfl rfl ?_
      refine WL.nil ?_
      refine WX.next ?_
      refine W.sub [(7, _), (8, _), (9, _), (12, _), (13, _), (14, _)] (.cons rfl (.cons rfl (.cons rfl (.cons rfl (.cons rfl (.cons rfl .nil)))))) ?_
      refine W.seq ?_
      refine W.seq ?_
      refine W.region ?_
      refine WL.assign rfl rfl ?_
      refine WL.nil ?_
      refine WX.next ?_
      refine W.sub [(7, _), (8, _), (9, _), (12, _), (13, _), (14, _), (15, _)] (.cons rfl (.cons rfl (.cons rfl (.cons rfl (.cons rfl (.cons rfl (.cons rfl .nil))))))) ?_
      refine W.block ?_
      refine W.loop (ι := Nat) (fun k => [(7, .pointer (some ⟨x2.g, 0, none⟩)), (8, .slice B sh.length cB), (9, .int .i64 (me : Int)), (12, .pointer (some ⟨g11_2, 0, none⟩)), (13, .int .i64 (rnds sh me)), (14, .int .i64 (bndS sh me (rnds sh me) k)), (15, .int .i64 (k : Int))]) (fun zz w => Mem w0 w ((fun _ => x2.L ++ (Asr.lst intE B cB sh :: [Asr.row g11_2 31 [.int .i64 (me : Int), .int .i64 120, .int .u64 77]])) zz) ∧ (fun k => k ≤ sh.length ∧ 0 ≤ bndS sh me (rnds sh me) k ∧ bndS sh me (rnds sh me) k ≤ 7000 * k) zz) (fun k => sh.length - k) (0) (by (repeat' (first | exact envSub.nil | refine envSub.cons ?_ ?_)) <;> first | rfl | (refine congrArg some ?_; refine congrArg (Value.int _) ?_; first | omega | (dsimp only; omega)) | (simp; done) | (refine congrArg some ?_; dsimp only; congr 1; omega) | (simp; omega)) ⟨M.sel (by first | ((repeat (first | with_reducible exact Sel.refl | with_reducible exact Sel.nil | with_reducible exact Del.here | with_reducible apply Del.there | with_reducible apply Sel.cons | with_reducible apply Sel.drop)); done) | (repeat (first | exact Sel.refl | exact Sel.nil | exact Del.here | apply Del.there | apply Sel.cons | apply Sel.drop))), ⟨Nat.zero_le _, Int.le_refl _, Int.le_refl _⟩⟩ ?_
      clear M; rintro (k) w ⟨M, ⟨hk, hb1, hb2⟩⟩; dsimp only at M hk hb1 hb2 ⊢
      refine W.sub [(7, _), (8, _), (9, _), (12, _), (13, _), (14, _), (15, _)] (.cons rfl (.cons rfl (.cons rfl (.cons rfl (.cons rfl (.cons rfl (.cons rfl .nil))))))) ?_
      refine W.seq ?_
      refine W.seq ?_
      refine W.region ?_
      refine WL.move rfl rfl ?_
      refine WL.move rfl rfl ?_
      refine WL.len Try.underlying22 rfl rfl ?_
      refine WL.lss rfl rfl rfl ?_
      refine WL.nil ?_
      refine WX.next ?_
      refine W.sub [(7, _), (8, _), (9, _), (12, _), (13, _), (14, _), (15, _), (78, _)] (.cons rfl (.cons rfl (.cons rfl (.cons rfl (.cons rfl (.cons rfl (.cons rfl (.cons rfl .nil)))))))) ?_
      refine W.ite rfl (fun c4 => ?_) (fun c4 => ?_)
      · have hsk := @hSe k (by omega)
        have hpr := mul_bd hR.1 hR.2 (show 0 ≤ el sh k by omega) hsk.2
        refine W.skip ?_
        refine WX.next ?_
        refine W.seq ?_
        refine W.block ?_
        refine W.seq ?_
        refine W.region ?_
        refine WL.move rfl rfl ?_
        refine WL.move rfl rfl ?_
        refine WL.neI rfl rfl rfl ?_
        refine WL.nil ?_
        refine WX.next ?_
        refine W.sub [(7, _), (8, _), (9, _), (12, _), (13, _), (14, _), (15, _), (83, _)] (.cons rfl (.cons rfl (.cons rfl (.cons rfl (.cons rfl (.cons rfl (.cons rfl (.cons rfl .nil)))))))) ?_
        refine W.ite rfl (fun c5 => ?_) (fun c5 => ?_)
        · have hbe : bndS sh me (rnds sh me) (k + 1) = bndS sh me (rnds sh me) k + rnds sh me * el sh k + 120 := by
            show bndS sh me (rnds sh me) k + (if k = me then 0 else rnds sh me * el sh k + 120) = _
            rw [if_neg (by omega)]
            omega
          refine W.region ?_
          refine WL.move rfl rfl ?_
          refine WL.move rfl rfl ?_
          refine WL.move rfl rfl ?_
          refine WL.move rfl rfl ?_
          refine WL.idxA Try.underlying22 Try.sizeOf3 rfl rfl (RdL.isSome (E := intE) (by first | with_reducible assumption | with_reducible exact RdL.mem (by with_reducible assumption) M | exact M.rdL (by first | ((repeat (first | with_reducible exact Has.here | with_reducible refine Has.there ?_)); done) | (repeat (first | exact Has.here | refine Has.there ?_))) | exact RdLH.at (by assumption) (M.sel (by first | ((repeat (first | with_reducible exact Sel.refl | with_reducible exact Sel.nil | with_reducible exact Del.here | with_reducible apply Del.there | with_reducible apply Sel.cons | with_reducible apply Sel.drop)); done) | (repeat (first | exact Sel.refl | exact Sel.nil | exact Del.here | apply Del.there | apply Sel.cons | apply Sel.drop)))) | exact RdL.nil _ _ _) (by omega)) (by omega) (by omega) (by first | exact rfl | exact (Int.toNat_of_nonneg (by omega)).symm) rfl ?_
          refine WL.loadE0 (E := intE) Try.isAgg3 rfl (by first | with_reducible assumption | with_reducible exact RdL.mem (by with_reducible assumption) M | exact M.rdL (by first | ((repeat (first | with_reducible exact Has.here | with_reducible refine Has.there ?_)); done) | (repeat (first | exact Has.here | refine Has.there ?_))) | exact RdLH.at (by assumption) (M.sel (by first | ((repeat (first | with_reducible exact Sel.refl | with_reducible exact Sel.nil | with_reducible exact Del.here | with_reducible apply Del.there | with_reducible apply Sel.cons | with_reducible apply Sel.drop)); done) | (repeat (first | exact Sel.refl | exact Sel.nil | exact Del.here | apply Del.there | apply Sel.cons | apply Sel.drop)))) | exact RdL.nil _ _ _) (by omega) rfl rfl ?_
          refine WL.mul rfl rfl (by first | exact wI64 (by omega) | rfl) rfl ?_
          refine WL.add rfl rfl (by first | exact wI64 (by omega) | rfl) rfl ?_
          refine WL.add rfl rfl (by first | exact wI64 (by omega) | rfl) rfl ?_
          refine WL.assign rfl rfl ?_
          refine WL.nil ?_
          refine WX.blockNormal ?_
          refine WX.next ?_
          refine W.sub [(7, _), (8, _), (9, _), (12, _), (13, _), (14, _), (15, _)] (.cons rfl (.cons rfl (.cons rfl (.cons rfl (.cons rfl (.cons rfl (.cons rfl .nil))))))) ?_
          refine W.region ?_
          refine WL.move rfl rfl ?_
          refine WL.add rfl rfl (by first | exact wI64 (by omega) | rfl) rfl ?_
          refine WL.assign rfl rfl ?_
          refine WL.nil ?_
          rw [← hbe]
          refine WX.round (k + 1) (by (repeat' (first | exact envSub.nil | refine envSub.cons ?_ ?_)) <;> first | rfl | (refine congrArg some ?_; refine congrArg (Value.int _) ?_; first | omega | (dsimp only; omega)) | (simp; done) | (refine congrArg some ?_; dsimp only; congr 1; omega) | (simp; omega)) ⟨M.sel (by first | ((repeat (first | with_reducible exact Sel.refl | with_reducible exact Sel.nil | with_reducible exact Del.here | with_reducible apply Del.there | with_reducible apply Sel.cons | with_reducible apply Sel.drop)); done) | (repeat (first | exact Sel.refl | exact Sel.nil | exact Del.here | apply Del.there | apply Sel.cons | apply Sel.drop))), ⟨by omega, by rw [hbe]; omega, by rw [hbe]; omega⟩⟩ (by first | omega | (dsimp only; omega))
        · have hbe : bndS sh me (rnds sh me) (k + 1) = bndS sh me (rnds sh me) k := by
            show bndS sh me (rnds sh me) k + (if k = me then 0 else rnds sh me * el sh k + 120) = _
            rw [if_pos (by omega)]
            omega
          refine W.skip ?_
          refine WX.blockNormal ?_
          refine WX.next ?_
          refine W.region ?_
          refine WL.move rfl rfl ?_
          refine WL.add rfl rfl (by first | exact wI64 (by omega) | rfl) rfl ?_
          refine WL.assign rfl rfl ?_
          refine WL.nil ?_
          rw [← hbe]
          refine WX.round (k + 1) (by (repeat' (first | exact envSub.nil | refine envSub.cons ?_ ?_)) <;> first | rfl | (refine congrArg some ?_; refine congrArg (Value.int _) ?_; first | omega | (dsimp only; omega)) | (simp; done) | (refine congrArg some ?_; dsimp only; congr 1; omega) | (simp; omega)) ⟨M.sel (by first | ((repeat (first | with_reducible exact Sel.refl | with_reducible exact Sel.nil | with_reducible exact Del.here | with_reducible apply Del.there | with_reducible apply Sel.cons | with_reducible apply Sel.drop)); done) | (repeat (first | exact Sel.refl | exact Sel.nil | exact Del.here | apply Del.there | apply Sel.cons | apply Sel.drop))), ⟨by omega, by rw [hbe]; omega, by rw [hbe]; omega⟩⟩ (by first | omega | (dsimp only; omega))
      · obtain rfl : k = sh.length := by omega
        refine W.exit ?_
        refine WX.thenExit ?_
        refine WX.thenExit ?_
        refine WX.blockHere ?_
        refine WX.next ?_
        refine W.seq ?_
        refine W.region ?_
        refine WL.assign rfl rfl ?_
        refine WL.nil ?_
        refine WX.next ?_
        refine W.sub [(7, _), (12, _), (14, _), (16, _)] (.cons rfl (.cons rfl (.cons rfl (.cons rfl .nil)))) ?_
        refine W.seq ?_
        refine W.seq ?_
        refine W.region ?_
        refine WL.assign rfl rfl ?_
        refine WL.nil ?_
        refine WX.next ?_
        refine W.sub [(7, _), (12, _), (14, _), (16, _), (17, _)] (.cons rfl (.cons rfl (.cons rfl (.cons rfl (.cons rfl .nil))))) ?_
        refine W.block ?_
        refine W.loop (ι := Nat × SdX × Int) (fun z => [(7, .pointer (some ⟨z.2.1.g, 0, none⟩)), (12, .pointer (some ⟨g11_2, 0, none⟩)), (14, .int .i64 (bndS sh me (rnds sh me) sh.length)), (16, .int .i64 z.2.2), (17, .int .i64 (z.1 : Int))]) (fun zz w => Mem w0 w ((fun z => z.2.1.L ++ [Asr.row g11_2 31 [.int .i64 (me : Int), .int .i64 120, .int .u64 77]]) zz) ∧ (fun z => z.2.1.ok ∧ TurnQ z.2.1.s sh me z.2.2 z.1) zz) (fun z => 300 - z.1) ((0, x2, 0)) (by (repeat' (first | exact envSub.nil | refine envSub.cons ?_ ?_)) <;> first | rfl | (refine congrArg some ?_; refine congrArg (Value.int _) ?_; first | omega | (dsimp only; omega)) | (simp; done) | (refine congrArg some ?_; dsimp only; congr 1; omega) | (simp; omega)) ⟨M.sel (by first | ((repeat (first | with_reducible exact Sel.refl | with_reducible exact Sel.nil | with_reducible exact Del.here | with_reducible apply Del.there | with_reducible apply Sel.cons | with_reducible apply Sel.drop)); done) | (repeat (first | exact Sel.refl | exact Sel.nil | exact Del.here | apply Del.there | apply Sel.cons | apply Sel.drop))), ⟨ho2, hQ0⟩⟩ ?_
        clear M; rintro (⟨i2, x3, spent⟩) w ⟨M, ⟨ho3, hQ⟩⟩; dsimp only at M ho3 hQ ⊢
        refine W.sub [(7, _), (12, _), (14, _), (16, _), (17, _)] (.cons rfl (.cons rfl (.cons rfl (.cons rfl (.cons rfl .nil))))) ?_
        refine W.seq ?_
        refine W.seq ?_
        have hn0 : nJ x3.s.fl ≠ 0 := nJ_ne me (by rw [hQ.len]; exact hme) (by rw [hQ.jobs]; simp)
        have hqn := hQ.n
        have hqlo := hQ.lo
        refine W.region ?_
        refine WL.move rfl rfl ?_
        refine WL.lss rfl rfl rfl ?_
        refine WL.nil ?_
        refine WX.next ?_
        refine W.sub [(7, _), (12, _), (14, _), (16, _), (17, _), (94, _)] (.cons rfl (.cons rfl (.cons rfl (.cons rfl (.cons rfl (.cons rfl .nil)))))) ?_
        refine W.ite rfl (fun c6 => ?_) (fun c6 => ?_)
        · refine W.skip ?_
          refine WX.next ?_
          refine W.seq ?_
          refine W.block ?_
          refine W.seq ?_
          refine W.region ?_
          refine WL.move rfl rfl ?_
          refine WL.call Try.call13 rfl (Pop1_ok x3 ho3 hn0 w0 w _ M) rfl ?_
          rintro _ w ⟨x4, rfl, hg4, hs4, ho4, M⟩
          rw [hg4]
          unfold JX.v
          obtain ⟨kk, js, hp⟩ := pop_says ho3.s hn0
          have hmn := hQ.mine hp
          have hco := hp.cost
          refine WL.move rfl rfl ?_
          refine WL.extractL rfl rfl rfl ?_
          refine WL.extractL rfl rfl rfl ?_
          refine WL.alloc Try.zeroValue31 M rfl ?_
          intro g24_5 w M
          try simp only [Value.cells] at M
          try simp only [List.toList_toArray] at M
          refine WL.storeWA Try.sizeOf31 rfl rfl (by repeat (first | exact oneNil | refine oneCons rfl ?_)) rfl rfl M (by first | ((repeat (first | with_reducible exact Upd.here | with_reducible apply Upd.there)); done) | (repeat (first | exact Upd.here | apply Upd.there))) ?_
          intro w M
          refine WL.assign rfl rfl ?_
          refine WL.nil ?_
          refine WX.next ?_
          refine W.sub [(7, _), (12, _), (14, _), (16, _), (17, _), (18, _), (19, _)] (.cons rfl (.cons rfl (.cons rfl (.cons rfl (.cons rfl (.cons rfl (.cons rfl .nil))))))) ?_
          refine W.seq ?_
          refine W.seq ?_
          refine W.region ?_
          refine WL.move rfl rfl ?_
          refine WL.not rfl rfl ?_
          refine WL.nil ?_
          refine WX.next ?_
          refine W.sub [(7, _), (12, _), (14, _), (16, _), (17, _), (18, _), (103, _)] (.cons rfl (.cons rfl (.cons rfl (.cons rfl (.cons rfl (.cons rfl (.cons rfl .nil))))))) ?_
          refine W.cond rfl (fun c7 => ?_) (fun c7 => ?_)
          · (try simp only [Bool.not_eq_true'] at c7); (try simp only [Bool.not_eq_false'] at c7); (try simp only [decide_eq_true_eq] at c7); (try simp only [decide_eq_false_iff_not] at c7)
            exact absurd c7 (by decide)
          · (try simp only [Bool.not_eq_true'] at c7); (try simp only [Bool.not_eq_false'] at c7); (try simp only [decide_eq_true_eq] at c7); (try simp only [decide_eq_false_iff_not] at c7)
            refine W.skip ?_
            refine WX.next ?_
            refine W.seq ?_
            refine W.seq ?_
            refine W.region ?_
            refine WL.loadW Try.isAgg31 Try.sizeOf31 rfl M (by first | ((repeat (first | with_reducible exact Has.here | with_reducible refine Has.there ?_)); done) | (repeat (first | exact Has.here | refine Has.there ?_))) rfl rfl ?_
            refine WL.loadW Try.isAgg31 Try.sizeOf31 rfl M (by first | ((repeat (first | with_reducible exact Has.here | with_reducible refine Has.there ?_)); done) | (repeat (first | exact Has.here | refine Has.there ?_))) rfl rfl ?_
            refine WL.eqlJ (popJ x3.s) (mineX me) rfl rfl rfl ?_
            refine WL.nil ?_
            refine WX.next ?_
            refine W.sub [(7, _), (12, _), (14, _), (16, _), (17, _), (18, _), (106, _)] (.cons rfl (.cons rfl (.cons rfl (.cons rfl (.cons rfl (.cons rfl (.cons rfl .nil))))))) ?_
            refine W.cond rfl (fun c8 => ?_) (fun c8 => ?_)
            · (try simp only [Bool.not_eq_true'] at c8); (try simp only [Bool.not_eq_false'] at c8); (try simp only [decide_eq_true_eq] at c8); (try simp only [decide_eq_false_iff_not] at c8)
              refine W.seq ?_
              refine W.region ?_
              refine WL.call Try.call16 rfl (known21_ok _) rfl ?_
              rintro _ w ⟨rfl, m⟩
              replace M := M.call0 m; clear m
              refine WL.assign rfl rfl ?_
              refine WL.nil ?_
              refine WX.next ?_
              refine W.sub [(6, _)] (.cons rfl .nil) ?_
              refine W.ret ?_
              refine WX.thenRet ?_
              refine WX.blockRet ?_
              refine WX.thenRet ?_
              refine WX.thenRet ?_
              refine WX.blockRet ?_
              refine WX.thenRet ?_
              refine WX.ret1 rfl rfl ?_
              exact ⟨rfl, M.sel (by first | ((repeat (first | with_reducible exact Sel.refl | with_reducible exact Sel.nil | with_reducible exact Del.here | with_reducible apply Del.there | with_reducible apply Sel.cons | with_reducible apply Sel.drop)); done) | (repeat (first | exact Sel.refl | exact Sel.nil | exact Del.here | apply Del.there | apply Sel.cons | apply Sel.drop)))⟩
            · (try simp only [Bool.not_eq_true'] at c8); (try simp only [Bool.not_eq_false'] at c8); (try simp only [decide_eq_true_eq] at c8); (try simp only [decide_eq_false_iff_not] at c8)
              have hne : kk ≠ me := fun e => c8 (hmn.1 e)
              have hQ2 := hQ.pop hme hp hne
              rw [← hs4] at hQ2
              refine W.skip ?_
              refine WX.next ?_
              refine W.seq ?_
              refine W.region ?_
              refine WL.move rfl rfl ?_
              refine WL.fieldR (off := 1) Try.underlying31 rfl rfl Try.sizeOf3 rfl rfl rfl ?_
              refine WL.loadR Try.isAgg3 rfl M (by first | ((repeat (first | with_reducible exact Has.here | with_reducible refine Has.there ?_)); done) | (repeat (first | exact Has.here | refine Has.there ?_))) rfl rfl ?_
              refine WL.add rfl rfl (by first | exact wI64 (by omega) | rfl) rfl ?_
              refine WL.assign rfl rfl ?_
              refine WL.nil ?_
              refine WX.next ?_
              refine W.sub [(7, _), (12, _), (14, _), (16, _), (17, _)] (.cons rfl (.cons rfl (.cons rfl (.cons rfl (.cons rfl .nil))))) ?_
              refine W.seq ?_
              refine W.region ?_
              refine WL.move rfl rfl ?_
              refine WL.move rfl rfl ?_
              refine WL.gtr rfl rfl rfl ?_
              refine WL.nil ?_
              refine WX.next ?_
              refine W.sub [(7, _), (12, _), (14, _), (16, _), (17, _), (114, _)] (.cons rfl (.cons rfl (.cons rfl (.cons rfl (.cons rfl (.cons rfl .nil)))))) ?_
              refine W.ite rfl (fun c9 => ?_) (fun c9 => ?_)
              · exact absurd hQ2.2 (by omega)
              · refine W.skip ?_
                refine WX.blockNormal ?_
                refine WX.next ?_
                refine W.region ?_
                refine WL.move rfl rfl ?_
                refine WL.add rfl rfl (by first | exact wI64 (by omega) | rfl) rfl ?_
                refine WL.assign rfl rfl ?_
                refine WL.nil ?_
                refine WX.round ((i2 + 1, x4, spent + (popJ x3.s).cost)) (by (repeat' (first | exact envSub.nil | refine envSub.cons ?_ ?_)) <;> first | rfl | (refine congrArg some ?_; refine congrArg (Value.int _) ?_; first | omega | (dsimp only; omega)) | (simp; done) | (refine congrArg some ?_; dsimp only; congr 1; omega) | (simp; omega)) ⟨M.sel (by first | ((repeat (first | with_reducible exact Sel.refl | with_reducible exact Sel.nil | with_reducible exact Del.here | with_reducible apply Del.there | with_reducible apply Sel.cons | with_reducible apply Sel.drop)); done) | (repeat (first | exact Sel.refl | exact Sel.nil | exact Del.here | apply Del.there | apply Sel.cons | apply Sel.drop))), ⟨ho4, hQ2.1⟩⟩ (by first | omega | (dsimp only; omega))
        · exact absurd (by omega) c6
  · refine WL.off rfl rfl rfl rfl ?_
    refine WL.off rfl rfl rfl rfl ?_
    refine WL.pickF rfl rfl rfl ?_
    refine WL.nil ?_
    refine WX.next ?_
    refine W.sub [(1, _), (7, _), (8, _), (9, _), (10, _), (41, _)] (.cons rfl (.cons rfl (.cons rfl (.cons rfl (.cons rfl (.cons rfl .nil)))))) ?_
    refine W.condF rfl ?_
    refine W.exit ?_
    refine WX.thenExit ?_
    refine WX.thenExit ?_
    refine WX.blockHere ?_
    refine WX.next ?_
    refine W.seq ?_
    refine W.region ?_
    refine WL.move rfl rfl ?_
    refine WL.buildP (places := #[(0, 1), (1, 1), (2, 1)]) Try.underlying31 Try.zeroValue31 (fun _ => by simp [Try.sizeOf3, Try.sizeOf3, Try.sizeOf29]) rfl (by repeat (first | exact Puts.nil | exact SetAt.zero | apply SetAt.succ | apply Puts.cons rfl rfl)) rfl ?_
    refine WL.alloc Try.zeroValue31 M rfl ?_
    intro g11_2 w M
    try simp only [Value.cells] at M
    try simp only [List.toList_toArray] at M
    refine WL.storeWA Try.sizeOf31 rfl rfl (by repeat (first | exact oneNil | refine oneCons rfl ?_)) rfl rfl M (by first | ((repeat (first | with_reducible exact Upd.here | with_reducible apply Upd.there)); done) | (repeat (first | exact Upd.here | apply Upd.there))) ?_
    intro w M
    refine WL.nil ?_
    refine WX.next ?_
    refine W.sub [(7, _), (8, _), (9, _), (12, _)] (.cons rfl (.cons rfl (.cons rfl (.cons rfl .nil)))) ?_
    refine W.seq ?_
    refine W.region ?_
    refine WL.move rfl rfl ?_
    refine WL.loadW Try.isAgg31 Try.sizeOf31 rfl M (by first | ((repeat (first | with_reducible exact Has.here | with_reducible refine Has.there ?_)); done) | (repeat (first | exact Has.here | refine Has.there ?_))) rfl rfl ?_
    refine WL.call Try.call12 rfl (Push1_ok x hxo (mineX me) w0 w _ (M.sel (K := x.L ++ (Asr.lst intE B cB sh :: [Asr.row g11_2 31 [.int .i64 (me : Int), .int .i64 120, .int .u64 77]])) (by first | ((repeat (first | with_reducible exact Sel.refl | with_reducible exact Sel.nil | with_reducible exact Del.here | with_reducible apply Del.there | with_reducible apply Sel.cons | with_reducible apply Sel.drop)); done) | (repeat (first | exact Sel.refl | exact Sel.nil | exact Del.here | apply Del.there | apply Sel.cons | apply Sel.drop))))) rfl ?_
    rintro _ w ⟨x2, rfl, hg2, hs2, ho2, M⟩
    rw [hg2]
    have hQ0 := hP.mine hme hc (by omega)
    rw [← hs2] at hQ0
    have hsm := hSe hme
    have hR := rnds_bd (sh := sh) (me := me) hsm
    refine WL.nil ?_
    refine WX.next ?_
    refine W.sub [(7, _), (8, _), (9, _), (12, _)] (.cons rfl (.cons rfl (.cons rfl (.cons rfl .nil)))) ?_
    refine W.seq ?_
    refine W.drawM ([Asr.lst intE B cB sh]) (by kernel_rfl) (fun j => [3, 4, 5, 9].contains j) M (by first | ((repeat (first | with_reducible exact Sel.refl | with_reducible exact Sel.nil | with_reducible exact Del.here | with_reducible apply Del.there | with_reducible apply Sel.cons | with_reducible apply Sel.drop)); done) | (repeat (first | exact Sel.refl | exact Sel.nil | exact Del.here | apply Del.there | apply Sel.cons | apply Sel.drop))) ?_
    clear M; intro M
    apply DG.pure_ [0, 1, 2, 6, 7, 8] 7 rfl (by kernel_rfl) (by kernel_rfl)
    · intro w
      refine WL.move rfl rfl ?_
      refine WL.move rfl rfl ?_
      refine WL.idxA Try.underlying22 Try.sizeOf3 rfl rfl (RdL.isSome (E := intE) (by first | with_reducible assumption | with_reducible exact RdL.mem (by with_reducible assumption) M | exact M.rdL (by first | ((repeat (first | with_reducible exact Has.here | with_reducible refine Has.there ?_)); done) | (repeat (first | exact Has.here | refine Has.there ?_))) | exact RdLH.at (by assumption) (M.sel (by first | ((repeat (first | with_reducible exact Sel.refl | with_reducible exact Sel.nil | with_reducible exact Del.here | with_reducible apply Del.there | with_reducible apply Sel.cons | with_reducible apply Sel.drop)); done) | (repeat (first | exact Sel.refl | exact Sel.nil | exact Del.here | apply Del.there | apply Sel.cons | apply Sel.drop)))) | exact RdL.nil _ _ _) (by omega)) (by omega) (by omega) (by first | exact rfl | exact (Int.toNat_of_nonneg (by omega)).symm) rfl ?_
      refine WL.move rfl rfl ?_
      refine WL.move rfl rfl ?_
      refine WL.idxA Try.underlying22 Try.sizeOf3 rfl rfl (RdL.isSome (E := intE) (by first | with_reducible assumption | with_reducible exact RdL.mem (by with_reducible assumption) M | exact M.rdL (by first | ((repeat (first | with_reducible exact Has.here | with_reducible refine Has.there ?_)); done) | (repeat (first | exact Has.here | refine Has.there ?_))) | exact RdLH.at (by assumption) (M.sel (by first | ((repeat (first | with_reducible exact Sel.refl | with_reducible exact Sel.nil | with_reducible exact Del.here | with_reducible apply Del.there | with_reducible apply Sel.cons | with_reducible apply Sel.drop)); done) | (repeat (first | exact Sel.refl | exact Sel.nil | exact Del.here | apply Del.there | apply Sel.cons | apply Sel.drop)))) | exact RdL.nil _ _ _) (by omega)) (by omega) (by omega) (by first | exact rfl | exact (Int.toNat_of_nonneg (by omega)).symm) rfl ?_
      exact Chain.end_ rfl
    apply DG.take [3, 4, 5, 9, 10, 11, 12] 0 rfl (by kernel_rfl) (by kernel_rfl) (M.sel (by first | ((repeat (first | with_reducible exact Sel.refl | with_reducible exact Sel.nil | with_reducible exact Del.here | with_reducible apply Del.there | with_reducible apply Sel.cons | with_reducible apply Sel.drop)); done) | (repeat (first | exact Sel.refl | exact Sel.nil | exact Del.here | apply Del.there | apply Sel.cons | apply Sel.drop))))
    · intro w M
      refine WL.loadE0 (E := intE) Try.isAgg3 rfl (by first | with_reducible assumption | with_reducible exact RdL.mem (by with_reducible assumption) M | exact M.rdL (by first | ((repeat (first | with_reducible exact Has.here | with_reducible refine Has.there ?_)); done) | (repeat (first | exact Has.here | refine Has.there ?_))) | exact RdLH.at (by assumption) (M.sel (by first | ((repeat (first | with_reducible exact Sel.refl | with_reducible exact Sel.nil | with_reducible exact Del.here | with_reducible apply Del.there | with_reducible apply Sel.cons | with_reducible apply Sel.drop)); done) | (repeat (first | exact Sel.refl | exact Sel.nil | exact Del.here | apply Del.there | apply Sel.cons | apply Sel.drop)))) | exact RdL.nil _ _ _) (by omega) rfl rfl ?_
      refine WL.add rfl rfl (by first | exact wI64 (by omega) | rfl) rfl ?_
      refine WL.sub' rfl rfl (by first | exact wI64 (by omega) | rfl) rfl ?_
      refine WL.loadE0 (E := intE) Try.isAgg3 rfl (by first | with_reducible assumption | with_reducible exact RdL.mem (by with_reducible assumption) M | exact M.rdL (by first | ((repeat (first | with_reducible exact Has.here | with_reducible refine Has.there ?_)); done) | (repeat (first | exact Has.here | refine Has.there ?_))) | exact RdLH.at (by assumption) (M.sel (by first | ((repeat (first | with_reducible exact Sel.refl | with_reducible exact Sel.nil | with_reducible exact Del.here | with_reducible apply Del.there | with_reducible apply Sel.cons | with_reducible apply Sel.drop)); done) | (repeat (first | exact Sel.refl | exact Sel.nil | exact Del.here | apply Del.there | apply Sel.cons | apply Sel.drop)))) | exact RdL.nil _ _ _) (by omega) rfl rfl ?_
      refine WL.quo rfl rfl (by omega) (quoI64 (by omega)) rfl ?_
      refine WL.add rfl rfl (show IntKind.i64.wrap ((120 + el sh me - 1) / el sh me + 1) = rnds sh me by rw [wI64 (by unfold rnds at hR; omega)]; rfl) rfl ?_
      refine WL.assign rfl rfl ?_
      exact Chain.end_ rfl
    refine DG.end_ (by kernel_rfl) ?_
    refine WX.next ?_
    refine W.sub [(7, _), (8, _), (9, _), (12, _), (13, _)] (.cons rfl (.cons rfl (.cons rfl (.cons rfl (.cons rfl .nil))))) ?_
    refine W.seq ?_
    refine W.region ?_
    refine WL.assign rfl rfl ?_
    refine WL.nil ?_
    refine WX.next ?_
    refine W.sub [(7, _), (8, _), (9, _), (12, _), (13, _), (14, _)] (.cons rfl (.cons rfl (.cons rfl (.cons rfl (.cons rfl (.cons rfl .nil)))))) ?_
    refine W.seq ?_
    refine W.seq ?_
    refine W.region ?_
    refine WL.assign rfl rfl ?_
    refine WL.nil ?_
    refine WX.next ?_
    refine W.sub [(7, _), (8, _), (9, _), (12, _), (13, _), (14, _), (15, _)] (.cons rfl (.cons rfl (.cons rfl (.cons rfl (.cons rfl (.cons rfl (.cons rfl .nil))))))) ?_
    refine W.block ?_
    refine W.loop (ι := Nat) (fun k => [(7, .pointer (some ⟨x2.g, 0, none⟩)), (8, .slice B sh.length cB), (9, .int .i64 (me : Int)), (12, .pointer (some ⟨g11_2, 0, none⟩)), (13, .int .i64 (rnds sh me)), (14, .int .i64 (bndS sh me (rnds sh me) k)), (15, .int .i64 (k : Int))]) (fun zz w => Mem w0 w ((fun _ => x2.L ++ (Asr.lst intE B cB sh :: [Asr.row g11_2 31 [.int .i64 (me : Int), .int .i64 120, .int .u64 77]])) zz) ∧ (fun k => k ≤ sh.length ∧ 0 ≤ bndS sh me (rnds sh me) k ∧ bndS sh me (rnds sh me) k ≤ 7000 * k) zz) (fun k => sh.length - k) (0) (by (repeat' (first | exact envSub.nil | refine envSub.cons ?_ ?_)) <;> first | rfl | (refine congrArg some ?_; refine congrArg (Value.int _) ?_; first | omega | (dsimp only; omega)) | (simp; done) | (refine congrArg some ?_; dsimp only; congr 1; omega) | (simp; omega)) ⟨M.sel (by first | ((repeat (first | with_reducible exact Sel.refl | with_reducible exact Sel.nil | with_reducible exact Del.here | with_reducible apply Del.there | with_reducible apply Sel.cons | with_reducible apply Sel.drop)); done) | (repeat (first | exact Sel.refl | exact Sel.nil | exact Del.here | apply Del.there | apply Sel.cons | apply Sel.drop))), ⟨Nat.zero_le _, Int.le_refl _, Int.le_refl _⟩⟩ ?_
    clear M; rintro (k) w ⟨M, ⟨hk, hb1, hb2⟩⟩; dsimp only at M hk hb1 hb2 ⊢
    refine W.sub [(7, _), (8, _), (9, _), (12, _), (13, _), (14, _), (15, _)] (.cons rfl (.cons rfl (.cons rfl (.cons rfl (.cons rfl (.cons rfl (.cons rfl .nil))))))) ?_
    refine W.seq ?_
    refine W.seq ?_
    refine W.region ?_
    refine WL.move rfl rfl ?_
    refine WL.move rfl rfl ?_
    refine WL.len Try.underlying22 rfl rfl ?_
    refine WL.lss rfl rfl rfl ?_
    refine WL.nil ?_
    refine WX.next ?_
    refine W.sub [(7, _), (8, _), (9, _), (12, _), (13, _), (14, _), (15, _), (78, _)] (.cons rfl (.cons rfl (.cons rfl (.cons rfl (.cons rfl (.cons rfl (.cons rfl (.cons rfl .nil)))))))) ?_
    refine W.ite rfl (fun c4 => ?_) (fun c4 => ?_)
    · have hsk := @hSe k (by omega)
      have hpr := mul_bd hR.1 hR.2 (show 0 ≤ el sh k by omega) hsk.2
      refine W.skip ?_
      refine WX.next ?_
      refine W.seq ?_
      refine W.block ?_
      refine W.seq ?_
      refine W.region ?_
      refine WL.move rfl rfl ?_
      refine WL.move rfl rfl ?_
      refine WL.neI rfl rfl rfl ?_
      refine WL.nil ?_
      refine WX.next ?_
      refine W.sub [(7, _), (8, _), (9, _), (12, _), (13, _), (14, _), (15, _), (83, _)] (.cons rfl (.cons rfl (.cons rfl (.cons rfl (.cons rfl (.cons rfl (.cons rfl (.cons rfl .nil)))))))) ?_
      refine W.ite rfl (fun c5 => ?_) (fun c5 => ?_)
      · have hbe : bndS sh me (rnds sh me) (k + 1) = bndS sh me (rnds sh me) k + rnds sh me * el sh k + 120 := by
          show bndS sh me (rnds sh me) k + (if k = me then 0 else rnds sh me * el sh k + 120) = _
          rw [if_neg (by omega)]
          omega
        refine W.region ?_
        refine WL.move rfl rfl ?_
        refine WL.move rfl rfl ?_
        refine WL.move rfl rfl ?_
        refine WL.move rfl rfl ?_
        refine WL.idxA Try.underlying22 Try.sizeOf3 rfl rfl (RdL.isSome (E := intE) (by first | with_reducible assumption | with_reducible exact RdL.mem (by with_reducible assumption) M | exact M.rdL (by first | ((repeat (first | with_reducible exact Has.here | with_reducible refine Has.there ?_)); done) | (repeat (first | exact Has.here | refine Has.there ?_))) | exact RdLH.at (by assumption) (M.sel (by first | ((repeat (first | with_reducible exact Sel.refl | with_reducible exact Sel.nil | with_reducible exact Del.here | with_reducible apply Del.there | with_reducible apply Sel.cons | with_reducible apply Sel.drop)); done) | (repeat (first | exact Sel.refl | exact Sel.nil | exact Del.here | apply Del.there | apply Sel.cons | apply Sel.drop)))) | exact RdL.nil _ _ _) (by omega)) (by omega) (by omega) (by first | exact rfl | exact (Int.toNat_of_nonneg (by omega)).symm) rfl ?_
        refine WL.loadE0 (E := intE) Try.isAgg3 rfl (by first | with_reducible assumption | with_reducible exact RdL.mem (by with_reducible assumption) M | exact M.rdL (by first | ((repeat (first | with_reducible exact Has.here | with_reducible refine Has.there ?_)); done) | (repeat (first | exact Has.here | refine Has.there ?_))) | exact RdLH.at (by assumption) (M.sel (by first | ((repeat (first | with_reducible exact Sel.refl | with_reducible exact Sel.nil | with_reducible exact Del.here | with_reducible apply Del.there | with_reducible apply Sel.cons | with_reducible apply Sel.drop)); done) | (repeat (first | exact Sel.refl | exact Sel.nil | exact Del.here | apply Del.there | apply Sel.cons | apply Sel.drop)))) | exact RdL.nil _ _ _) (by omega) rfl rfl ?_
        refine WL.mul rfl rfl (by first | exact wI64 (by omega) | rfl) rfl ?_
        refine WL.add rfl rfl (by first | exact wI64 (by omega) | rfl) rfl ?_
        refine WL.add rfl rfl (by first | exact wI64 (by omega) | rfl) rfl ?_
        refine WL.assign rfl rfl ?_
        refine WL.nil ?_
        refine WX.blockNormal ?_
        refine WX.next ?_
        refine W.sub [(7, _), (8, _), (9, _), (12, _), (13, _), (14, _), (15, _)] (.cons rfl (.cons rfl (.cons rfl (.cons rfl (.cons rfl (.cons rfl (.cons rfl .nil))))))) ?_
        refine W.region ?_
        refine WL.move rfl rfl ?_
        refine WL.add rfl rfl (by first | exact wI64 (by omega) | rfl) rfl ?_
        refine WL.assign rfl rfl ?_
        refine WL.nil ?_
        rw [← hbe]
        refine WX.round (k + 1) (by (repeat' (first | exact envSub.nil | refine envSub.cons ?_ ?_)) <;> first | rfl | (refine congrArg some ?_; refine congrArg (Value.int _) ?_; first | omega | (dsimp only; omega)) | (simp; done) | (refine congrArg some ?_; dsimp only; congr 1; omega) | (simp; omega)) ⟨M.sel (by first | ((repeat (first | with_reducible exact Sel.refl | with_reducible exact Sel.nil | with_reducible exact Del.here | with_reducible apply Del.there | with_reducible apply Sel.cons | with_reducible apply Sel.drop)); done) | (repeat (first | exact Sel.refl | exact Sel.nil | exact Del.here | apply Del.there | apply Sel.cons | apply Sel.drop))), ⟨by omega, by rw [hbe]; omega, by rw [hbe]; omega⟩⟩ (by first | omega | (dsimp only; omega))
      · have hbe : bndS sh me (rnds sh me) (k + 1) = bndS sh me (rnds sh me) k := by
          show bndS sh me (rnds sh me) k + (if k = me then 0 else rnds sh me * el sh k + 120) = _
          rw [if_pos (by omega)]
          omega
        refine W.skip ?_
        refine WX.blockNormal ?_
        refine WX.next ?_
        refine W.region ?_
        refine WL.move rfl rfl ?_
        refine WL.add rfl rfl (by first | exact wI64 (by omega) | rfl) rfl ?_
        refine WL.assign rfl rfl ?_
        refine WL.nil ?_
        rw [← hbe]
        refine WX.round (k + 1) (by (repeat' (first | exact envSub.nil | refine envSub.cons ?_ ?_)) <;> first | rfl | (refine congrArg some ?_; refine congrArg (Value.int _) ?_; first | omega | (dsimp only; omega)) | (simp; done) | (refine congrArg some ?_; dsimp only; congr 1; omega) | (simp; omega)) ⟨M.sel (by first | ((repeat (first | with_reducible exact Sel.refl | with_reducible exact Sel.nil | with_reducible exact Del.here | with_reducible apply Del.there | with_reducible apply Sel.cons | with_reducible apply Sel.drop)); done) | (repeat (first | exact Sel.refl | exact Sel.nil | exact Del.here | apply Del.there | apply Sel.cons | apply Sel.drop))), ⟨by omega, by rw [hbe]; omega, by rw [hbe]; omega⟩⟩ (by first | omega | (dsimp only; omega))
    · obtain rfl : k = sh.length := by omega
      refine W.exit ?_
      refine WX.thenExit ?_
      refine WX.thenExit ?_
      refine WX.blockHere ?_
      refine WX.next ?_
      refine W.seq ?_
      refine W.region ?_
      refine WL.assign rfl rfl ?_
      refine WL.nil ?_
      refine WX.next ?_
      refine W.sub [(7, _), (12, _), (14, _), (16, _)] (.cons rfl (.cons rfl (.cons rfl (.cons rfl .nil)))) ?_
      refine W.seq ?_
      refine W.seq ?_
      refine W.region ?_
      refine WL.assign rfl rfl ?_
      refine WL.nil ?_
      refine WX.next ?_
      refine W.sub [(7, _), (12, _), (14, _), (16, _), (17, _)] (.cons rfl (.cons rfl (.cons rfl (.cons rfl (.cons rfl .nil))))) ?_
      refine W.block ?_
      refine W.loop (ι := Nat × SdX × Int) (fun z => [(7, .pointer (some ⟨z.2.1.g, 0, none⟩)), (12, .pointer (some ⟨g11_2, 0, none⟩)), (14, .int .i64 (bndS sh me (rnds sh me) sh.length)), (16, .int .i64 z.2.2), (17, .int .i64 (z.1 : Int))]) (fun zz w => Mem w0 w ((fun z => z.2.1.L ++ [Asr.row g11_2 31 [.int .i64 (me : Int), .int .i64 120, .int .u64 77]]) zz) ∧ (fun z => z.2.1.ok ∧ TurnQ z.2.1.s sh me z.2.2 z.1) zz) (fun z => 300 - z.1) ((0, x2, 0)) (by (repeat' (first | exact envSub.nil | refine envSub.cons ?_ ?_)) <;> first | rfl | (refine congrArg some ?_; refine congrArg (Value.int _) ?_; first | omega | (dsimp only; omega)) | (simp; done) | (refine congrArg some ?_; dsimp only; congr 1; omega) | (simp; omega)) ⟨M.sel (by first | ((repeat (first | with_reducible exact Sel.refl | with_reducible exact Sel.nil | with_reducible exact Del.here | with_reducible apply Del.there | with_reducible apply Sel.cons | with_reducible apply Sel.drop)); done) | (repeat (first | exact Sel.refl | exact Sel.nil | exact Del.here | apply Del.there | apply Sel.cons | apply Sel.drop))), ⟨ho2, hQ0⟩⟩ ?_
      clear M; rintro (⟨i2, x3, spent⟩) w ⟨M, ⟨ho3, hQ⟩⟩; dsimp only at M ho3 hQ ⊢
      refine W.sub [(7, _), (12, _), (14, _), (16, _), (17, _)] (.cons rfl (.cons rfl (.cons rfl (.cons rfl (.cons rfl .nil))))) ?_
      refine W.seq ?_
      refine W.seq ?_
      have hn0 : nJ x3.s.fl ≠ 0 := nJ_ne me (by rw [hQ.len]; exact hme) (by rw [hQ.jobs]; simp)
      have hqn := hQ.n
      have hqlo := hQ.lo
      refine W.region ?_
      refine WL.move rfl rfl ?_
      refine WL.lss rfl rfl rfl ?_
      refine WL.nil ?_
      refine WX.next ?_
      refine W.sub [(7, _), (12, _), (14, _), (16, _), (17, _), (94, _)] (.cons rfl (.cons rfl (.cons rfl (.cons rfl (.cons rfl (.cons rfl .nil)))))) ?_
      refine W.ite rfl (fun c6 => ?_) (fun c6 => ?_)
      · refine W.skip ?_
        refine WX.next ?_
        refine W.seq ?_
        refine W.block ?_
        refine W.seq ?_
        refine W.region ?_
        refine WL.move rfl rfl ?_
        refine WL.call Try.call13 rfl (Pop1_ok x3 ho3 hn0 w0 w _ M) rfl ?_
        rintro _ w ⟨x4, rfl, hg4, hs4, ho4, M⟩
        rw [hg4]
        unfold JX.v
        obtain ⟨kk, js, hp⟩ := pop_says ho3.s hn0
        have hmn := hQ.mine hp
        have hco := hp.cost
        refine WL.move rfl rfl ?_
        refine WL.extractL rfl rfl rfl ?_
        refine WL.extractL rfl rfl rfl ?_
        refine WL.alloc Try.zeroValue31 M rfl ?_
        intro g24_5 w M
        try simp only [Value.cells] at M
        try simp only [List.toList_toArray] at M
        refine WL.storeWA Try.sizeOf31 rfl rfl (by repeat (first | exact oneNil | refine oneCons rfl ?_)) rfl rfl M (by first | ((repeat (first | with_reducible exact Upd.here | with_reducible apply Upd.there)); done) | (repeat (first | exact Upd.here | apply Upd.there))) ?_
        intro w M
        refine WL.assign rfl rfl ?_
        refine WL.nil ?_
        refine WX.next ?_
        refine W.sub [(7, _), (12, _), (14, _), (16, _), (17, _), (18, _), (19, _)] (.cons rfl (.cons rfl (.cons rfl (.cons rfl (.cons rfl (.cons rfl (.cons rfl .nil))))))) ?_
        refine W.seq ?_
        refine W.seq ?_
        refine W.region ?_
        refine WL.move rfl rfl ?_
        refine WL.not rfl rfl ?_
        refine WL.nil ?_
        refine WX.next ?_
        refine W.sub [(7, _), (12, _), (14, _), (16, _), (17, _), (18, _), (103, _)] (.cons rfl (.cons rfl (.cons rfl (.cons rfl (.cons rfl (.cons rfl (.cons rfl .nil))))))) ?_
        refine W.cond rfl (fun c7 => ?_) (fun c7 => ?_)
        · (try simp only [Bool.not_eq_true'] at c7); (try simp only [Bool.not_eq_false'] at c7); (try simp only [decide_eq_true_eq] at c7); (try simp only [decide_eq_false_iff_not] at c7)
          exact absurd c7 (by decide)
        · (try simp only [Bool.not_eq_true'] at c7); (try simp only [Bool.not_eq_false'] at c7); (try simp only [decide_eq_true_eq] at c7); (try simp only [decide_eq_false_iff_not] at c7)
          refine W.skip ?_
          refine WX.next ?_
          refine W.seq ?_
          refine W.seq ?_
          refine W.region ?_
          refine WL.loadW Try.isAgg31 Try.sizeOf31 rfl M (by first | ((repeat (first | with_reducible exact Has.here | with_reducible refine Has.there ?_)); done) | (repeat (first | exact Has.here | refine Has.there ?_))) rfl rfl ?_
          refine WL.loadW Try.isAgg31 Try.sizeOf31 rfl M (by first | ((repeat (first | with_reducible exact Has.here | with_reducible refine Has.there ?_)); done) | (repeat (first | exact Has.here | refine Has.there ?_))) rfl rfl ?_
          refine WL.eqlJ (popJ x3.s) (mineX me) rfl rfl rfl ?_
          refine WL.nil ?_
          refine WX.next ?_
          refine W.sub [(7, _), (12, _), (14, _), (16, _), (17, _), (18, _), (106, _)] (.cons rfl (.cons rfl (.cons rfl (.cons rfl (.cons rfl (.cons rfl (.cons rfl .nil))))))) ?_
          refine W.cond rfl (fun c8 => ?_) (fun c8 => ?_)
          · (try simp only [Bool.not_eq_true'] at c8); (try simp only [Bool.not_eq_false'] at c8); (try simp only [decide_eq_true_eq] at c8); (try simp only [decide_eq_false_iff_not] at c8)
            refine W.seq ?_
            refine W.region ?_
            refine WL.call Try.call16 rfl (known21_ok _) rfl ?_
            rintro _ w ⟨rfl, m⟩
            replace M := M.call0 m; clear m
            refine WL.assign rfl rfl ?_
            refine WL.nil ?_
            refine WX.next ?_
            refine W.sub [(6, _)] (.cons rfl .nil) ?_
            refine W.ret ?_
            refine WX.thenRet ?_
            refine WX.blockRet ?_
            refine WX.thenRet ?_
            refine WX.thenRet ?_
            refine WX.blockRet ?_
            refine WX.thenRet ?_
            refine WX.ret1 rfl rfl ?_
            exact ⟨rfl, M.sel (by first | ((repeat (first | with_reducible exact Sel.refl | with_reducible exact Sel.nil | with_reducible exact Del.here | with_reducible apply Del.there | with_reducible apply Sel.cons | with_reducible apply Sel.drop)); done) | (repeat (first | exact Sel.refl | exact Sel.nil | exact Del.here | apply Del.there | apply Sel.cons | apply Sel.drop)))⟩
          · (try simp only [Bool.not_eq_true'] at c8); (try simp only [Bool.not_eq_false'] at c8); (try simp only [decide_eq_true_eq] at c8); (try simp only [decide_eq_false_iff_not] at c8)
            have hne : kk ≠ me := fun e => c8 (hmn.1 e)
            have hQ2 := hQ.pop hme hp hne
            rw [← hs4] at hQ2
            refine W.skip ?_
            refine WX.next ?_
            refine W.seq ?_
            refine W.region ?_
            refine WL.move rfl rfl ?_
            refine WL.fieldR (off := 1) Try.underlying31 rfl rfl Try.sizeOf3 rfl rfl rfl ?_
            refine WL.loadR Try.isAgg3 rfl M (by first | ((repeat (first | with_reducible exact Has.here | with_reducible refine Has.there ?_)); done) | (repeat (first | exact Has.here | refine Has.there ?_))) rfl rfl ?_
            refine WL.add rfl rfl (by first | exact wI64 (by omega) | rfl) rfl ?_
            refine WL.assign rfl rfl ?_
            refine WL.nil ?_
            refine WX.next ?_
            refine W.sub [(7, _), (12, _), (14, _), (16, _), (17, _)] (.cons rfl (.cons rfl (.cons rfl (.cons rfl (.cons rfl .nil))))) ?_
            refine W.seq ?_
            refine W.region ?_
            refine WL.move rfl rfl ?_
            refine WL.move rfl rfl ?_
            refine WL.gtr rfl rfl rfl ?_
            refine WL.nil ?_
            refine WX.next ?_
            refine W.sub [(7, _), (12, _), (14, _), (16, _), (17, _), (114, _)] (.cons rfl (.cons rfl (.cons rfl (.cons rfl (.cons rfl (.cons rfl .nil)))))) ?_
            refine W.ite rfl (fun c9 => ?_) (fun c9 => ?_)
            · exact absurd hQ2.2 (by omega)
            · refine W.skip ?_
              refine WX.blockNormal ?_
              refine WX.next ?_
              refine W.region ?_
              refine WL.move rfl rfl ?_
              refine WL.add rfl rfl (by first | exact wI64 (by omega) | rfl) rfl ?_
              refine WL.assign rfl rfl ?_
              refine WL.nil ?_
              refine WX.round ((i2 + 1, x4, spent + (popJ x3.s).cost)) (by (repeat' (first | exact envSub.nil | refine envSub.cons ?_ ?_)) <;> first | rfl | (refine congrArg some ?_; refine congrArg (Value.int _) ?_; first | omega | (dsimp only; omega)) | (simp; done) | (refine congrArg some ?_; dsimp only; congr 1; omega) | (simp; omega)) ⟨M.sel (by first | ((repeat (first | with_reducible exact Sel.refl | with_reducible exact Sel.nil | with_reducible exact Del.here | with_reducible apply Del.there | with_reducible apply Sel.cons | with_reducible apply Sel.drop)); done) | (repeat (first | exact Sel.refl | exact Sel.nil | exact Del.here | apply Del.there | apply Sel.cons | apply Sel.drop))), ⟨ho4, hQ2.1⟩⟩ (by first | omega | (dsimp only; omega))
      · exact absurd (by omega) c6
end Go.Proofs.Ytdhmopmfnnlhcaa
