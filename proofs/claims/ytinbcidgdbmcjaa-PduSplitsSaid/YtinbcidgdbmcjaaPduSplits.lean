/-
  Messages one behind the other, cut anywhere (seawalllaw20.PduSplits).
-/
import Derived.Test.YtinbcidgdbmcjaaPduIn
namespace Go.Proofs.Ytinbcidgdbmcjaa
open Go Go.RowKit Bin

def catM (ms : List MX) : List UInt8 := ms.flatMap putM
theorem catM_cons (m : MX) (ms : List MX) : catM (m :: ms) = putM m ++ catM ms := rfl
theorem catM_append (a b : List MX) : catM (a ++ b) = catM a ++ catM b := by simp [catM]
def goodM (m : MX) : Prop := m.inn ∧ chkM m.op m.now m.l.length = 0
theorem goodM_le {m : MX} (h : goodM m) : 48 ≤ (putM m).length ∧ (putM m).length ≤ 5000 := by
  have := putM_length m
  have := (chkM_zero h.2).2.2
  unfold padN at *
  omega
theorem catM_len : ∀ (ms : List MX), (∀ x ∈ ms, goodM x) → (catM ms).length ≤ 5000 * ms.length
  | [], _ => by simp [catM]
  | m :: ms, h => by
    have h1 := goodM_le (h m (List.mem_cons_self ..))
    have h2 := catM_len ms (fun x hx => h x (List.mem_cons_of_mem _ hx))
    rw [catM_cons, List.length_append, List.length_cons]
    omega
theorem SameM.symm {a b : MX} (h : SameM a b) : SameM b a := ⟨h.1.symm, h.2.1.symm, h.2.2.1.symm, h.2.2.2.1.symm, h.2.2.2.2.1.symm, fun i hi => (h.2.2.2.2.2.1 i hi).symm, h.2.2.2.2.2.2.symm⟩
instance : Inhabited MX := ⟨zeroM⟩
theorem getE_short {b : List UInt8} (h : b.length < 48) : getE b = 10 := by unfold getE; rw [if_pos h]
theorem split_cat : ∀ (n : Nat) (ms : List MX) (c : Nat), (∀ x ∈ ms, goodM x) → n ≤ ms.length → c ≤ (catM ms).length → (catM (ms.take n)).length ≤ c → (n < ms.length → c < (catM (ms.take (n + 1))).length) →
    ∃ X : List MX, splitM ((catM ms).take c) = (X, (catM (ms.take n)).length, 0) ∧ X.length = n ∧ ∀ i, i < n → SameM (el X i) (el ms i)
  | 0, ms, c, hg, _, hc, _, h2 => by
    refine ⟨[], ?_, rfl, fun i hi => absurd hi (Nat.not_lt_zero _)⟩
    match ms, hg, hc, h2 with
    | [], _, hc, _ =>
      have h0 : (catM []).take c = [] := by simp [catM]
      rw [h0]
      exact splitM_short (getE_short (by decide))
    | m :: ms, hg, hc, h2 =>
      have h3 := h2 (by simp)
      have h4 : (catM ((m :: ms).take (0 + 1))).length = (putM m).length := by simp [catM]
      rw [h4] at h3
      have hm := hg m (List.mem_cons_self ..)
      have h5 : (catM (m :: ms)).take c = (putM m).take c := by
        rw [catM_cons, List.take_append_of_le_length (by omega)]
      rw [h5]
      exact splitM_short (get_cut m hm.1 hm.2 c h3)
  | n + 1, [], _, _, h, _, _, _ => absurd h (Nat.not_succ_le_zero _)
  | n + 1, m :: ms, c, hg, hn, hc, h1, h2 => by
    have hm := hg m (List.mem_cons_self ..)
    have e1 : catM ((m :: ms).take (n + 1)) = putM m ++ catM (ms.take n) := by rw [List.take_succ_cons, catM_cons]
    rw [e1, List.length_append] at h1
    rw [catM_cons, List.length_append] at hc
    have e2 : (catM (m :: ms)).take c = putM m ++ (catM ms).take (c - (putM m).length) := by
      rw [catM_cons, List.take_append, List.take_of_length_le (by omega)]
    obtain ⟨g0, gE⟩ := get_put m hm.1 hm.2 ((catM ms).take (c - (putM m).length))
    obtain ⟨X, hX, hl, hs⟩ := split_cat n ms (c - (putM m).length) (fun x hx => hg x (List.mem_cons_of_mem _ hx)) (by simpa using hn) (by omega) (by omega) (fun h => by
      have h3 := h2 (by simpa using h)
      rw [List.take_succ_cons, catM_cons, List.length_append] at h3
      omega)
    have hst := splitM_step g0
    rw [gE, List.drop_left, hX] at hst
    rw [e2, e1, hst]
    refine ⟨_, by rw [List.length_append], by simp [hl], fun i hi => ?_⟩
    match i, hi with
    | 0, _ => exact (hdM_put m hm.1 hm.2 _).1.symm
    | i + 1, hi => exact hs i (by omega)

/-- Where the messages end. -/
def endsM (ms : List MX) (i : Nat) : List Int := (List.range i).map fun j => ((catM (ms.take (j + 1))).length : Int)
theorem endsM_length (ms : List MX) (i : Nat) : (endsM ms i).length = i := by simp [endsM]
theorem endsM_succ (ms : List MX) (i : Nat) : endsM ms (i + 1) = endsM ms i ++ [((catM (ms.take (i + 1))).length : Int)] := by simp [endsM, List.range_succ]
theorem endsM_el (ms : List MX) {i j : Nat} (h : j < i) : el (endsM ms i) j = ((catM (ms.take (j + 1))).length : Int) := by simp [endsM, el, h]
theorem endsM_take (ms : List MX) (i : Nat) : endsM ms i = endsM (ms.take i) i := by
  unfold endsM
  apply List.map_congr_left
  intro j hj
  rw [List.mem_range] at hj
  rw [List.take_take, Nat.min_eq_left (by omega)]
set_option maxRecDepth 10000 in
set_option maxHeartbeats 4000000 in
theorem PduSplits_ok {A : Option Addr} {cap : Nat} (ps : List PdX) (cut : Int) (w0 : World) (h : RdL w0 pduE A cap ps) (hin : ∀ p ∈ ps, p.inn w0) (hcut : -9223372036854775808 ≤ cut ∧ cut ≤ 9223372036854775807) :
    Fn Try.prog 7 [.slice A ps.length cap, .int .i64 cut] w0 fun v w' => v = .bool true ∧ Mem w0 w' [] := by
  have M := Mem.refl w0
  obtain ⟨w, hw⟩ : ∃ w, w = w0 := ⟨w0, rfl⟩
  obtain ⟨K, hK⟩ : ∃ K, K = ps.map PdX.m := ⟨_, rfl⟩
  have hKl : K.length = ps.length := by rw [hK]; simp
  have hcap : ps.length ≤ cap := Rd.le h
  refine Fn.enter Try.func7 rfl Try.ntmps7 rfl ?_
  refine W.sub [(0, _), (1, _)] (.cons rfl (.cons rfl .nil)) ?_
  refine W.seq ?_
  refine W.region ?_
  refine WL.assign rfl rfl ?_
  refine WL.nil ?_
  refine WX.next ?_
  refine W.sub [(0, _), (1, _)] (.cons rfl (.cons rfl .nil)) ?_
  refine W.seq ?_
  refine W.region ?_
  refine WL.assign rfl rfl ?_
  refine WL.nil ?_
  refine WX.next ?_
  refine W.sub [(0, _), (1, _), (5, _)] (.cons rfl (.cons rfl (.cons rfl .nil))) ?_
  refine W.seq ?_
  refine W.region ?_
  refine WL.assign rfl rfl ?_
  refine WL.nil ?_
  refine WX.next ?_
  refine W.sub [(0, _), (1, _), (5, _), (6, _)] (.cons rfl (.cons rfl (.cons rfl (.cons rfl .nil)))) ?_
  refine W.joint (fun (s : Nat × (Option Addr × Nat) × (Option Addr × Nat)) => [(0, .slice A ps.length cap), (1, .int .i64 cut), (5, .slice s.2.1.1 (catM (K.take s.1)).length s.2.1.2), (6, .slice s.2.2.1 (endsM K s.1).length s.2.2.2)]) (fun j w => Mem w0 w ((fun s => [Asr.own 5 1 s.2.1.1 (catM (K.take s.1)).length s.2.1.2 (bs (catM (K.take s.1))), Asr.lst intE s.2.2.1 s.2.2.2 (endsM K s.1)]) j) ∧ (fun s => s.1 ≤ ps.length ∧ s.1 ≤ 20 ∧ ∀ x ∈ K.take s.1, goodM x) j) ?_ ?_
  · refine W.seq ?_
    refine W.region ?_
    refine WL.assign rfl rfl ?_
    refine WL.nil ?_
    refine WX.next ?_
    refine W.sub [(0, _), (1, _), (5, _), (6, _), (7, _)] (.cons rfl (.cons rfl (.cons rfl (.cons rfl (.cons rfl .nil))))) ?_
    refine W.block ?_
    refine W.loop (ι := Nat × (Option Addr × Nat) × (Option Addr × Nat)) (fun s => [(0, .slice A ps.length cap), (1, .int .i64 cut), (5, .slice s.2.1.1 (catM (K.take s.1)).length s.2.1.2), (6, .slice s.2.2.1 (endsM K s.1).length s.2.2.2), (7, .int .i64 (s.1 : Int))]) (fun zz w => Mem w0 w ((fun s => [Asr.own 5 1 s.2.1.1 (catM (K.take s.1)).length s.2.1.2 (bs (catM (K.take s.1))), Asr.lst intE s.2.2.1 s.2.2.2 (endsM K s.1)]) zz) ∧ (fun s => s.1 ≤ ps.length ∧ s.1 ≤ 20 ∧ ∀ x ∈ K.take s.1, goodM x) zz) (fun s => ps.length - s.1) ((0, (none, 0), (none, 0))) (by (repeat' (first | exact envSub.nil | refine envSub.cons ?_ ?_)) <;> first | rfl | (refine congrArg some ?_; refine congrArg (Value.int _) ?_; first | omega | (dsimp only; omega)) | (simp; done) | (refine congrArg some ?_; dsimp only; congr 1; omega) | (simp; omega)) ⟨(M.nilOwn _ _).nilOwn _ _, ⟨by simp, by simp, by simp⟩⟩ ?_
    clear M; rintro (⟨i, ⟨B, cB⟩, ⟨E, cE⟩⟩) w ⟨M, ⟨hi, h20, hgd⟩⟩; dsimp only at M hi h20 hgd ⊢
    refine W.sub [(0, _), (1, _), (5, _), (6, _), (7, _)] (.cons rfl (.cons rfl (.cons rfl (.cons rfl (.cons rfl .nil))))) ?_
    refine W.seq ?_
    refine W.seq ?_
    refine W.region ?_
    refine WL.move rfl rfl ?_
    refine WL.move rfl rfl ?_
    refine WL.len Try.underlying55 rfl rfl ?_
    refine WL.lss rfl rfl rfl ?_
    refine WL.moveIf rfl rfl (fun c0 => ?_) (fun c0 => ?_)
    · refine WL.on rfl rfl ?_
      refine WL.move rfl rfl ?_
      refine WL.on rfl rfl ?_
      refine WL.lss rfl rfl rfl ?_
      refine WL.pickT rfl rfl rfl ?_
      refine WL.nil ?_
      refine WX.next ?_
      refine W.sub [(0, _), (1, _), (5, _), (6, _), (7, _), (22, _)] (.cons rfl (.cons rfl (.cons rfl (.cons rfl (.cons rfl (.cons rfl .nil)))))) ?_
      refine W.ite rfl (fun c1 => ?_) (fun c1 => ?_)
      · have hlen := catM_len _ hgd
        rw [List.length_take] at hlen
        have hx := hin _ (el_mem (l := ps) (k := i) (by omega))
        have hKi : K.take (i + 1) = K.take i ++ [(el ps i).m] := by
          rw [List.take_add_one, hK, List.getElem?_map, el_get (by omega)]
          rfl
        refine W.skip ?_
        refine WX.next ?_
        refine W.seq ?_
        refine W.block ?_
        refine W.seq ?_
        refine W.seq ?_
        refine W.region ?_
        refine WL.move rfl rfl ?_
        refine WL.move rfl rfl ?_
        refine WL.idxA Try.underlying55 Try.sizeOf27 rfl rfl (RdL.isSome (E := pduE) (by first | with_reducible assumption | with_reducible exact RdL.mem (by with_reducible assumption) M | exact M.rdL (by first | ((repeat (first | with_reducible exact Has.here | with_reducible refine Has.there ?_)); done) | (repeat (first | exact Has.here | refine Has.there ?_))) | exact RdLH.at (by assumption) (M.sel (by first | ((repeat (first | with_reducible exact Sel.refl | with_reducible exact Sel.nil | with_reducible exact Del.here | with_reducible apply Del.there | with_reducible apply Sel.cons | with_reducible apply Sel.drop)); done) | (repeat (first | exact Sel.refl | exact Sel.nil | exact Del.here | apply Del.there | apply Sel.cons | apply Sel.drop)))) | exact RdL.nil _ _ _) (by omega)) (by omega) (by omega) (by first | exact rfl | exact (Int.toNat_of_nonneg (by omega)).symm) rfl ?_
        refine WL.fieldA (off := 12) Try.underlying27 rfl rfl Try.sizeOf25 rfl rfl rfl ?_
        refine WL.loadE (E := pduE) Try.isAgg25 rfl (by first | with_reducible assumption | with_reducible exact RdL.mem (by with_reducible assumption) M | exact M.rdL (by first | ((repeat (first | with_reducible exact Has.here | with_reducible refine Has.there ?_)); done) | (repeat (first | exact Has.here | refine Has.there ?_))) | exact RdLH.at (by assumption) (M.sel (by first | ((repeat (first | with_reducible exact Sel.refl | with_reducible exact Sel.nil | with_reducible exact Del.here | with_reducible apply Del.there | with_reducible apply Sel.cons | with_reducible apply Sel.drop)); done) | (repeat (first | exact Sel.refl | exact Sel.nil | exact Del.here | apply Del.there | apply Sel.cons | apply Sel.drop)))) | exact RdL.nil _ _ _) (by omega) rfl rfl ?_
        refine WL.len Try.underlying25 rfl rfl ?_
        refine WL.gtr rfl rfl rfl ?_
        refine WL.nil ?_
        refine WX.next ?_
        refine W.sub [(0, _), (1, _), (5, _), (6, _), (7, _), (31, _)] (.cons rfl (.cons rfl (.cons rfl (.cons rfl (.cons rfl (.cons rfl .nil)))))) ?_
        refine W.ite rfl (fun c2 => ?_) (fun c2 => ?_)
        · refine W.seq ?_
          refine W.region ?_
          refine WL.call Try.call9 rfl (known20_ok _) rfl ?_
          rintro _ w ⟨rfl, m⟩
          replace M := M.call0 m; clear m
          refine WL.assign rfl rfl ?_
          refine WL.nil ?_
          refine WX.next ?_
          refine W.sub [(4, _)] (.cons rfl .nil) ?_
          refine W.ret ?_
          refine WX.thenRet ?_
          refine WX.blockRet ?_
          refine WX.thenRet ?_
          refine WX.thenRet ?_
          refine WX.blockRet ?_
          refine WX.thenRet ?_
          refine WX.ret1 rfl rfl ?_
          exact ⟨by simp, M.sel (by first | ((repeat (first | with_reducible exact Sel.refl | with_reducible exact Sel.nil | with_reducible exact Del.here | with_reducible apply Del.there | with_reducible apply Sel.cons | with_reducible apply Sel.drop)); done) | (repeat (first | exact Sel.refl | exact Sel.nil | exact Del.here | apply Del.there | apply Sel.cons | apply Sel.drop)))⟩
        · refine W.skip ?_
          refine WX.next ?_
          refine W.seq ?_
          refine W.region ?_
          refine WL.move rfl rfl ?_
          refine WL.move rfl rfl ?_
          refine WL.idxA Try.underlying55 Try.sizeOf27 rfl rfl (RdL.isSome (E := pduE) (by first | with_reducible assumption | with_reducible exact RdL.mem (by with_reducible assumption) M | exact M.rdL (by first | ((repeat (first | with_reducible exact Has.here | with_reducible refine Has.there ?_)); done) | (repeat (first | exact Has.here | refine Has.there ?_))) | exact RdLH.at (by assumption) (M.sel (by first | ((repeat (first | with_reducible exact Sel.refl | with_reducible exact Sel.nil | with_reducible exact Del.here | with_reducible apply Del.there | with_reducible apply Sel.cons | with_reducible apply Sel.drop)); done) | (repeat (first | exact Sel.refl | exact Sel.nil | exact Del.here | apply Del.there | apply Sel.cons | apply Sel.drop)))) | exact RdL.nil _ _ _) (by omega)) (by omega) (by omega) (by first | exact rfl | exact (Int.toNat_of_nonneg (by omega)).symm) rfl ?_
          refine WL.loadL (E := pduE) (cs := [_, _, _, _, _, _, _, _, _, _, _, _, _]) Try.isAgg27 Try.sizeOf27 rfl (by first | with_reducible assumption | with_reducible exact RdL.mem (by with_reducible assumption) M | exact M.rdL (by first | ((repeat (first | with_reducible exact Has.here | with_reducible refine Has.there ?_)); done) | (repeat (first | exact Has.here | refine Has.there ?_))) | exact RdLH.at (by assumption) (M.sel (by first | ((repeat (first | with_reducible exact Sel.refl | with_reducible exact Sel.nil | with_reducible exact Del.here | with_reducible apply Del.there | with_reducible apply Sel.cons | with_reducible apply Sel.drop)); done) | (repeat (first | exact Sel.refl | exact Sel.nil | exact Del.here | apply Del.there | apply Sel.cons | apply Sel.drop)))) | exact RdL.nil _ _ _) rfl (by omega) rfl rfl ?_
          refine WL.call Try.call11 rfl (Put_ok (el ps i) _ (hx.2.mem M) hx.1 (by omega)) rfl ?_
          rintro _ w ⟨⟨A8, cap8, y⟩, rfl, m, hy, -⟩
          replace M := M.call1 m; clear m
          unfold OX.v
          unfold OX.O at M
          dsimp only at hy M ⊢
          refine WL.move rfl rfl ?_
          refine WL.extractL rfl rfl rfl ?_
          refine WL.extractL rfl rfl rfl ?_
          refine WL.assign rfl rfl ?_
          refine WL.assign rfl rfl ?_
          refine WL.nil ?_
          refine WX.next ?_
          refine W.sub [(0, _), (1, _), (5, _), (6, _), (7, _), (8, _), (9, _)] (.cons rfl (.cons rfl (.cons rfl (.cons rfl (.cons rfl (.cons rfl (.cons rfl .nil))))))) ?_
          refine W.seq ?_
          refine W.seq ?_
          refine W.region ?_
          refine WL.move rfl rfl ?_
          refine WL.neI rfl rfl rfl ?_
          refine WL.nil ?_
          refine WX.next ?_
          refine W.sub [(0, _), (1, _), (5, _), (6, _), (7, _), (8, _), (42, _)] (.cons rfl (.cons rfl (.cons rfl (.cons rfl (.cons rfl (.cons rfl (.cons rfl .nil))))))) ?_
          refine W.ite rfl (fun c3 => ?_) (fun c3 => ?_)
          · skip
            refine W.seq ?_
            refine W.region ?_
            refine WL.call Try.call9 rfl (known20_ok _) rfl ?_
            rintro _ w ⟨rfl, m⟩
            replace M := M.call0 m; clear m
            refine WL.assign rfl rfl ?_
            refine WL.nil ?_
            refine WX.next ?_
            refine W.sub [(4, _)] (.cons rfl .nil) ?_
            refine W.ret ?_
            refine WX.thenRet ?_
            refine WX.blockRet ?_
            refine WX.thenRet ?_
            refine WX.thenRet ?_
            refine WX.blockRet ?_
            refine WX.thenRet ?_
            refine WX.ret1 rfl rfl ?_
            exact ⟨by simp, M.sel (by first | ((repeat (first | with_reducible exact Sel.refl | with_reducible exact Sel.nil | with_reducible exact Del.here | with_reducible apply Del.there | with_reducible apply Sel.cons | with_reducible apply Sel.drop)); done) | (repeat (first | exact Sel.refl | exact Sel.nil | exact Del.here | apply Del.there | apply Sel.cons | apply Sel.drop)))⟩
          · have hck : chkM (el ps i).op (el ps i).now (el ps i).x.l.length = 0 := Classical.not_not.1 c3
            have hyp := hy hck
            subst hyp
            have hgm : goodM (el ps i).m := ⟨hx.1, hck⟩
            have hpl := goodM_le hgm
            have e1 : catM (K.take i) ++ putM (el ps i).m = catM (K.take (i + 1)) := by rw [hKi, catM_append]; simp [catM]
            have hEl := endsM_length K i
            refine W.skip ?_
            refine WX.next ?_
            refine W.seq ?_
            refine W.region ?_
            refine WL.move rfl rfl ?_
            refine WL.move rfl rfl ?_
            refine WL.appendBH Try.elem5 rfl rfl M (by first | ((repeat (first | with_reducible exact Del.here | with_reducible apply Del.there)); done) | (repeat (first | exact Del.here | apply Del.there))) (by first | first | with_reducible assumption | with_reducible exact RdB.mem (by with_reducible assumption) M | exact M.rdB (by first | ((repeat (first | with_reducible exact Has.here | with_reducible refine Has.there ?_)); done) | (repeat (first | exact Has.here | refine Has.there ?_))) | exact RdH.at (by assumption) (M.sel (by first | ((repeat (first | with_reducible exact Sel.refl | with_reducible exact Sel.nil | with_reducible exact Del.here | with_reducible apply Del.there | with_reducible apply Sel.cons | with_reducible apply Sel.drop)); done) | (repeat (first | exact Sel.refl | exact Sel.nil | exact Del.here | apply Del.there | apply Sel.cons | apply Sel.drop)))) | exact M.rdLit' (by first | ((repeat (first | with_reducible exact Has.here | with_reducible refine Has.there ?_)); done) | (repeat (first | exact Has.here | refine Has.there ?_))) | exact M.rdLent (by first | ((repeat (first | with_reducible exact Has.here | with_reducible refine Has.there ?_)); done) | (repeat (first | exact Has.here | refine Has.there ?_))) | exact RdB.nil _ _ | exact RdB.sub (by first | with_reducible assumption | with_reducible exact RdB.mem (by with_reducible assumption) M | exact M.rdB (by first | ((repeat (first | with_reducible exact Has.here | with_reducible refine Has.there ?_)); done) | (repeat (first | exact Has.here | refine Has.there ?_))) | exact RdH.at (by assumption) (M.sel (by first | ((repeat (first | with_reducible exact Sel.refl | with_reducible exact Sel.nil | with_reducible exact Del.here | with_reducible apply Del.there | with_reducible apply Sel.cons | with_reducible apply Sel.drop)); done) | (repeat (first | exact Sel.refl | exact Sel.nil | exact Del.here | apply Del.there | apply Sel.cons | apply Sel.drop)))) | exact M.rdLit' (by first | ((repeat (first | with_reducible exact Has.here | with_reducible refine Has.there ?_)); done) | (repeat (first | exact Has.here | refine Has.there ?_))) | exact M.rdLent (by first | ((repeat (first | with_reducible exact Has.here | with_reducible refine Has.there ?_)); done) | (repeat (first | exact Has.here | refine Has.there ?_))) | exact RdB.nil _ _) (by omega) (by omega) | exact RdB.pre' (by first | with_reducible assumption | with_reducible exact RdB.mem (by with_reducible assumption) M | exact M.rdB (by first | ((repeat (first | with_reducible exact Has.here | with_reducible refine Has.there ?_)); done) | (repeat (first | exact Has.here | refine Has.there ?_))) | exact RdH.at (by assumption) (M.sel (by first | ((repeat (first | with_reducible exact Sel.refl | with_reducible exact Sel.nil | with_reducible exact Del.here | with_reducible apply Del.there | with_reducible apply Sel.cons | with_reducible apply Sel.drop)); done) | (repeat (first | exact Sel.refl | exact Sel.nil | exact Del.here | apply Del.there | apply Sel.cons | apply Sel.drop)))) | exact M.rdLit' (by first | ((repeat (first | with_reducible exact Has.here | with_reducible refine Has.there ?_)); done) | (repeat (first | exact Has.here | refine Has.there ?_))) | exact M.rdLent (by first | ((repeat (first | with_reducible exact Has.here | with_reducible refine Has.there ?_)); done) | (repeat (first | exact Has.here | refine Has.there ?_))) | exact RdB.nil _ _) (by omega) | exact RdB.suf (by first | with_reducible assumption | with_reducible exact RdB.mem (by with_reducible assumption) M | exact M.rdB (by first | ((repeat (first | with_reducible exact Has.here | with_reducible refine Has.there ?_)); done) | (repeat (first | exact Has.here | refine Has.there ?_))) | exact RdH.at (by assumption) (M.sel (by first | ((repeat (first | with_reducible exact Sel.refl | with_reducible exact Sel.nil | with_reducible exact Del.here | with_reducible apply Del.there | with_reducible apply Sel.cons | with_reducible apply Sel.drop)); done) | (repeat (first | exact Sel.refl | exact Sel.nil | exact Del.here | apply Del.there | apply Sel.cons | apply Sel.drop)))) | exact M.rdLit' (by first | ((repeat (first | with_reducible exact Has.here | with_reducible refine Has.there ?_)); done) | (repeat (first | exact Has.here | refine Has.there ?_))) | exact M.rdLent (by first | ((repeat (first | with_reducible exact Has.here | with_reducible refine Has.there ?_)); done) | (repeat (first | exact Has.here | refine Has.there ?_))) | exact RdB.nil _ _) (by omega)) rfl rfl (by first | omega | (simp; done) | (simp; omega)) rfl ?_
            intro A11_2 cap11_2 w M
            refine WL.assign rfl rfl ?_
            rw [e1] at M ⊢
            refine WL.nil ?_
            refine WX.next ?_
            refine W.sub [(0, _), (1, _), (5, _), (6, _), (7, _)] (.cons rfl (.cons rfl (.cons rfl (.cons rfl (.cons rfl .nil))))) ?_
            refine W.region ?_
            refine WL.move rfl rfl ?_
            refine WL.move rfl rfl ?_
            refine WL.len Try.underlying25 rfl rfl ?_
            refine WL.buildL (E := intE) (l := [((catM (K.take (i + 1))).length : Int)]) Try.elem3 M rfl rfl rfl rfl rfl rfl ?_
            intro g12_3 w M
            refine WL.appendL (E := intE) Try.elem3 rfl rfl M (by first | ((repeat (first | with_reducible exact Del.here | with_reducible apply Del.there)); done) | (repeat (first | exact Del.here | apply Del.there))) (by first | with_reducible assumption | with_reducible exact RdL.mem (by with_reducible assumption) M | exact M.rdL (by first | ((repeat (first | with_reducible exact Has.here | with_reducible refine Has.there ?_)); done) | (repeat (first | exact Has.here | refine Has.there ?_))) | exact RdLH.at (by assumption) (M.sel (by first | ((repeat (first | with_reducible exact Sel.refl | with_reducible exact Sel.nil | with_reducible exact Del.here | with_reducible apply Del.there | with_reducible apply Sel.cons | with_reducible apply Sel.drop)); done) | (repeat (first | exact Sel.refl | exact Sel.nil | exact Del.here | apply Del.there | apply Sel.cons | apply Sel.drop)))) | exact RdL.nil _ _ _) rfl rfl (by rw [hEl]; simp only [List.length_cons, List.length_nil]; omega) (by rw [hEl]; simp only [maxLen, List.length_cons, List.length_nil]; omega) rfl ?_
            intro A12_4 cap12_4 w M
            rw [← endsM_succ] at M ⊢
            refine WL.assign rfl rfl ?_
            refine WL.nil ?_
            refine WX.blockNormal ?_
            refine WX.next ?_
            refine W.sub [(0, _), (1, _), (5, _), (6, _), (7, _)] (.cons rfl (.cons rfl (.cons rfl (.cons rfl (.cons rfl .nil))))) ?_
            refine W.region ?_
            refine WL.move rfl rfl ?_
            refine WL.add rfl rfl (by first | exact wI64 (by omega) | rfl) rfl ?_
            refine WL.assign rfl rfl ?_
            refine WL.nil ?_
            skip
            have q : ∀ x ∈ K.take (i + 1), goodM x := by
              intro x hx
              rw [hKi, List.mem_append, List.mem_singleton] at hx
              rcases hx with hx | rfl
              · exact hgd x hx
              · exact hgm
            refine WX.round ((i + 1, (A11_2, cap11_2), (A12_4, cap12_4))) (by (repeat' (first | exact envSub.nil | refine envSub.cons ?_ ?_)) <;> first | rfl | (refine congrArg some ?_; refine congrArg (Value.int _) ?_; first | omega | (dsimp only; omega)) | (simp; done) | (refine congrArg some ?_; dsimp only; congr 1; omega) | (simp; omega)) ⟨M.sel (by first | ((repeat (first | with_reducible exact Sel.refl | with_reducible exact Sel.nil | with_reducible exact Del.here | with_reducible apply Del.there | with_reducible apply Sel.cons | with_reducible apply Sel.drop)); done) | (repeat (first | exact Sel.refl | exact Sel.nil | exact Del.here | apply Del.there | apply Sel.cons | apply Sel.drop))), ⟨by dsimp only; omega, by dsimp only; omega, q⟩⟩ (by first | omega | (dsimp only; omega))
      · refine W.exit ?_
        refine WX.thenExit ?_
        refine WX.thenExit ?_
        refine WX.blockHere ?_
        refine WX.join ((i, (B, cB), (E, cE))) (by (repeat' (first | exact envSub.nil | refine envSub.cons ?_ ?_)) <;> first | rfl | (refine congrArg some ?_; refine congrArg (Value.int _) ?_; first | omega | (dsimp only; omega)) | (simp; done) | (refine congrArg some ?_; dsimp only; congr 1; omega) | (simp; omega)) ⟨M.sel (by first | ((repeat (first | with_reducible exact Sel.refl | with_reducible exact Sel.nil | with_reducible exact Del.here | with_reducible apply Del.there | with_reducible apply Sel.cons | with_reducible apply Sel.drop)); done) | (repeat (first | exact Sel.refl | exact Sel.nil | exact Del.here | apply Del.there | apply Sel.cons | apply Sel.drop))), ⟨hi, h20, hgd⟩⟩
    · refine WL.off rfl rfl rfl rfl ?_
      refine WL.off rfl rfl rfl rfl ?_
      refine WL.pickF rfl rfl rfl ?_
      refine WL.nil ?_
      refine WX.next ?_
      refine W.sub [(0, _), (1, _), (5, _), (6, _), (7, _), (22, _)] (.cons rfl (.cons rfl (.cons rfl (.cons rfl (.cons rfl (.cons rfl .nil)))))) ?_
      refine W.condF rfl ?_
      refine W.exit ?_
      refine WX.thenExit ?_
      refine WX.thenExit ?_
      refine WX.blockHere ?_
      refine WX.join ((i, (B, cB), (E, cE))) (by (repeat' (first | exact envSub.nil | refine envSub.cons ?_ ?_)) <;> first | rfl | (refine congrArg some ?_; refine congrArg (Value.int _) ?_; first | omega | (dsimp only; omega)) | (simp; done) | (refine congrArg some ?_; dsimp only; congr 1; omega) | (simp; omega)) ⟨M.sel (by first | ((repeat (first | with_reducible exact Sel.refl | with_reducible exact Sel.nil | with_reducible exact Del.here | with_reducible apply Del.there | with_reducible apply Sel.cons | with_reducible apply Sel.drop)); done) | (repeat (first | exact Sel.refl | exact Sel.nil | exact Del.here | apply Del.there | apply Sel.cons | apply Sel.drop))), ⟨hi, h20, hgd⟩⟩
  clear M; rintro (⟨i, ⟨B, cB⟩, ⟨E, cE⟩⟩) w ⟨M, ⟨hi, h20, hgd⟩⟩; dsimp only at M hi h20 hgd ⊢
  refine W.sub [(0, _), (1, _), (5, _), (6, _)] (.cons rfl (.cons rfl (.cons rfl (.cons rfl .nil)))) ?_
  obtain ⟨G, hG⟩ : ∃ G, G = K.take i := ⟨_, rfl⟩
  have hGl : G.length = i := by rw [hG, List.length_take]; omega
  rw [endsM_take, ← hG] at M ⊢
  rw [← hG] at hgd
  have hGs : ∀ j, j < i → el G j = (el ps j).m := by
    intro j hj
    rw [hG, hK]
    simp [el, List.getElem?_take, hj, show j < ps.length by omega]
  have hlen := catM_len _ hgd
  obtain ⟨c, hc, hcl⟩ : ∃ c : Nat, (c : Int) = (if cut < 0 ∨ cut > ((catM G).length : Int) then ((catM G).length : Int) else cut) ∧ c ≤ (catM G).length := by
    by_cases h0 : cut < 0 ∨ cut > ((catM G).length : Int)
    · exact ⟨(catM G).length, by rw [if_pos h0], Nat.le_refl _⟩
    · exact ⟨cut.toNat, by rw [if_neg h0]; omega, by omega⟩
  refine W.joint (fun (_ : Unit) => [(0, .slice A ps.length cap), (1, .int .i64 (c : Int)), (5, .slice B (catM G).length cB), (6, .slice E (endsM G i).length cE)]) (fun j w => Mem w0 w ((fun _ => [Asr.own 5 1 B (catM G).length cB (bs (catM G)), Asr.lst intE E cE (endsM G i)]) j) ∧ (fun _ => True) j) ?_ ?_
  · refine W.seq ?_
    refine W.region ?_
    refine WL.move rfl rfl ?_
    refine WL.lss rfl rfl rfl ?_
    refine WL.moveIf rfl rfl (fun c4 => ?_) (fun c4 => ?_)
    · rw [if_pos (.inl c4)] at hc
      refine WL.off rfl rfl rfl rfl ?_
      refine WL.off rfl rfl rfl rfl ?_
      refine WL.off rfl rfl rfl rfl ?_
      refine WL.off rfl rfl rfl rfl ?_
      refine WL.pickT rfl rfl rfl ?_
      refine WL.nil ?_
      refine WX.next ?_
      refine W.sub [(0, _), (1, _), (5, _), (6, _), (59, _)] (.cons rfl (.cons rfl (.cons rfl (.cons rfl (.cons rfl .nil))))) ?_
      refine W.condT rfl ?_
      refine W.region ?_
      refine WL.move rfl rfl ?_
      refine WL.len Try.underlying25 rfl rfl ?_
      refine WL.assign rfl rfl ?_
      refine WL.nil ?_
      refine WX.join (()) (by (repeat' (first | exact envSub.nil | refine envSub.cons ?_ ?_)) <;> first | rfl | (refine congrArg some ?_; refine congrArg (Value.int _) ?_; first | omega | (dsimp only; omega)) | (simp; done) | (refine congrArg some ?_; dsimp only; congr 1; omega) | (simp; omega)) ⟨M.sel (by first | ((repeat (first | with_reducible exact Sel.refl | with_reducible exact Sel.nil | with_reducible exact Del.here | with_reducible apply Del.there | with_reducible apply Sel.cons | with_reducible apply Sel.drop)); done) | (repeat (first | exact Sel.refl | exact Sel.nil | exact Del.here | apply Del.there | apply Sel.cons | apply Sel.drop))), (by first | trivial | omega | (dsimp only; omega) | (simp; done))⟩
    · refine WL.on rfl rfl ?_
      refine WL.move rfl rfl ?_
      refine WL.on rfl rfl ?_
      refine WL.move rfl rfl ?_
      refine WL.on rfl rfl ?_
      refine WL.len Try.underlying25 rfl rfl ?_
      refine WL.on rfl rfl ?_
      refine WL.gtr rfl rfl rfl ?_
      refine WL.pickF rfl rfl rfl ?_
      refine WL.nil ?_
      refine WX.next ?_
      refine W.sub [(0, _), (1, _), (5, _), (6, _), (59, _)] (.cons rfl (.cons rfl (.cons rfl (.cons rfl (.cons rfl .nil))))) ?_
      refine W.ite rfl (fun c5 => ?_) (fun c5 => ?_)
      · rw [if_pos (.inr c5)] at hc
        refine W.region ?_
        refine WL.move rfl rfl ?_
        refine WL.len Try.underlying25 rfl rfl ?_
        refine WL.assign rfl rfl ?_
        refine WL.nil ?_
        refine WX.join (()) (by (repeat' (first | exact envSub.nil | refine envSub.cons ?_ ?_)) <;> first | rfl | (refine congrArg some ?_; refine congrArg (Value.int _) ?_; first | omega | (dsimp only; omega)) | (simp; done) | (refine congrArg some ?_; dsimp only; congr 1; omega) | (simp; omega)) ⟨M.sel (by first | ((repeat (first | with_reducible exact Sel.refl | with_reducible exact Sel.nil | with_reducible exact Del.here | with_reducible apply Del.there | with_reducible apply Sel.cons | with_reducible apply Sel.drop)); done) | (repeat (first | exact Sel.refl | exact Sel.nil | exact Del.here | apply Del.there | apply Sel.cons | apply Sel.drop))), (by first | trivial | omega | (dsimp only; omega) | (simp; done))⟩
      · rw [if_neg (by omega)] at hc
        refine W.skip ?_
        refine WX.join (()) (by (repeat' (first | exact envSub.nil | refine envSub.cons ?_ ?_)) <;> first | rfl | (refine congrArg some ?_; refine congrArg (Value.int _) ?_; first | omega | (dsimp only; omega)) | (simp; done) | (refine congrArg some ?_; dsimp only; congr 1; omega) | (simp; omega)) ⟨M.sel (by first | ((repeat (first | with_reducible exact Sel.refl | with_reducible exact Sel.nil | with_reducible exact Del.here | with_reducible apply Del.there | with_reducible apply Sel.cons | with_reducible apply Sel.drop)); done) | (repeat (first | exact Sel.refl | exact Sel.nil | exact Del.here | apply Del.there | apply Sel.cons | apply Sel.drop))), (by first | trivial | omega | (dsimp only; omega) | (simp; done))⟩
  clear M; rintro (_) w ⟨M, -⟩; dsimp only at M ⊢
  refine W.sub [(0, _), (1, _), (5, _), (6, _)] (.cons rfl (.cons rfl (.cons rfl (.cons rfl .nil)))) ?_
  refine W.seq ?_
  refine W.region ?_
  refine WL.assign rfl rfl ?_
  refine WL.nil ?_
  refine WX.next ?_
  refine W.sub [(0, _), (1, _), (5, _), (6, _), (10, _)] (.cons rfl (.cons rfl (.cons rfl (.cons rfl (.cons rfl .nil))))) ?_
  refine W.joint (fun (n : Nat) => [(0, .slice A ps.length cap), (1, .int .i64 (c : Int)), (5, .slice B (catM G).length cB), (6, .slice E (endsM G i).length cE), (10, .int .i64 (n : Int))]) (fun j w => Mem w0 w ((fun _ => [Asr.own 5 1 B (catM G).length cB (bs (catM G)), Asr.lst intE E cE (endsM G i)]) j) ∧ (fun n => n ≤ i ∧ (catM (G.take n)).length ≤ c ∧ (n < i → c < (catM (G.take (n + 1))).length)) j) ?_ ?_
  · refine W.block ?_
    refine W.loop (ι := Nat) (fun n => [(0, .slice A ps.length cap), (1, .int .i64 (c : Int)), (5, .slice B (catM G).length cB), (6, .slice E (endsM G i).length cE), (10, .int .i64 (n : Int))]) (fun zz w => Mem w0 w ((fun _ => [Asr.own 5 1 B (catM G).length cB (bs (catM G)), Asr.lst intE E cE (endsM G i)]) zz) ∧ (fun n => n ≤ i ∧ (catM (G.take n)).length ≤ c) zz) (fun n => i - n) (0) (by (repeat' (first | exact envSub.nil | refine envSub.cons ?_ ?_)) <;> first | rfl | (refine congrArg some ?_; refine congrArg (Value.int _) ?_; first | omega | (dsimp only; omega)) | (simp; done) | (refine congrArg some ?_; dsimp only; congr 1; omega) | (simp; omega)) ⟨M.sel (by first | ((repeat (first | with_reducible exact Sel.refl | with_reducible exact Sel.nil | with_reducible exact Del.here | with_reducible apply Del.there | with_reducible apply Sel.cons | with_reducible apply Sel.drop)); done) | (repeat (first | exact Sel.refl | exact Sel.nil | exact Del.here | apply Del.there | apply Sel.cons | apply Sel.drop))), ⟨by simp, by simp [catM]⟩⟩ ?_
    clear M; rintro (n) w ⟨M, ⟨hn, hnc⟩⟩; dsimp only at M hn hnc ⊢
    have hEl := endsM_length G i
    refine W.sub [(0, _), (1, _), (5, _), (6, _), (10, _)] (.cons rfl (.cons rfl (.cons rfl (.cons rfl (.cons rfl .nil))))) ?_
    refine W.seq ?_
    refine W.seq ?_
    refine W.region ?_
    refine WL.move rfl rfl ?_
    refine WL.move rfl rfl ?_
    refine WL.len Try.underlying64 rfl rfl ?_
    refine WL.lss rfl rfl rfl ?_
    refine WL.moveIf rfl rfl (fun c6 => ?_) (fun c6 => ?_)
    · have hel := endsM_el G (i := i) (j := n) (by omega)
      refine WL.on rfl rfl ?_
      refine WL.move rfl rfl ?_
      refine WL.on rfl rfl ?_
      refine WL.move rfl rfl ?_
      refine WL.on rfl rfl ?_
      refine WL.idxA Try.underlying64 Try.sizeOf3 rfl rfl (RdL.isSome (E := intE) (by first | with_reducible assumption | with_reducible exact RdL.mem (by with_reducible assumption) M | exact M.rdL (by first | ((repeat (first | with_reducible exact Has.here | with_reducible refine Has.there ?_)); done) | (repeat (first | exact Has.here | refine Has.there ?_))) | exact RdLH.at (by assumption) (M.sel (by first | ((repeat (first | with_reducible exact Sel.refl | with_reducible exact Sel.nil | with_reducible exact Del.here | with_reducible apply Del.there | with_reducible apply Sel.cons | with_reducible apply Sel.drop)); done) | (repeat (first | exact Sel.refl | exact Sel.nil | exact Del.here | apply Del.there | apply Sel.cons | apply Sel.drop)))) | exact RdL.nil _ _ _) (by omega)) (by omega) (by omega) (by first | exact rfl | exact (Int.toNat_of_nonneg (by omega)).symm) rfl ?_
      refine WL.on rfl rfl ?_
      refine WL.loadE0 (E := intE) Try.isAgg3 rfl (by first | with_reducible assumption | with_reducible exact RdL.mem (by with_reducible assumption) M | exact M.rdL (by first | ((repeat (first | with_reducible exact Has.here | with_reducible refine Has.there ?_)); done) | (repeat (first | exact Has.here | refine Has.there ?_))) | exact RdLH.at (by assumption) (M.sel (by first | ((repeat (first | with_reducible exact Sel.refl | with_reducible exact Sel.nil | with_reducible exact Del.here | with_reducible apply Del.there | with_reducible apply Sel.cons | with_reducible apply Sel.drop)); done) | (repeat (first | exact Sel.refl | exact Sel.nil | exact Del.here | apply Del.there | apply Sel.cons | apply Sel.drop)))) | exact RdL.nil _ _ _) (by omega) rfl rfl ?_
      refine WL.on rfl rfl ?_
      refine WL.move rfl rfl ?_
      refine WL.on rfl rfl ?_
      refine WL.leq rfl rfl rfl ?_
      refine WL.pickT rfl rfl rfl ?_
      refine WL.nil ?_
      refine WX.next ?_
      refine W.sub [(0, _), (1, _), (5, _), (6, _), (10, _), (73, _)] (.cons rfl (.cons rfl (.cons rfl (.cons rfl (.cons rfl (.cons rfl .nil)))))) ?_
      refine W.ite rfl (fun c7 => ?_) (fun c7 => ?_)
      · refine W.skip ?_
        refine WX.next ?_
        refine W.block ?_
        refine W.region ?_
        refine WL.move rfl rfl ?_
        refine WL.add rfl rfl (by first | exact wI64 (by omega) | rfl) rfl ?_
        refine WL.assign rfl rfl ?_
        refine WL.nil ?_
        refine WX.blockNormal ?_
        refine WX.round (n + 1) (by (repeat' (first | exact envSub.nil | refine envSub.cons ?_ ?_)) <;> first | rfl | (refine congrArg some ?_; refine congrArg (Value.int _) ?_; first | omega | (dsimp only; omega)) | (simp; done) | (refine congrArg some ?_; dsimp only; congr 1; omega) | (simp; omega)) ⟨M.sel (by first | ((repeat (first | with_reducible exact Sel.refl | with_reducible exact Sel.nil | with_reducible exact Del.here | with_reducible apply Del.there | with_reducible apply Sel.cons | with_reducible apply Sel.drop)); done) | (repeat (first | exact Sel.refl | exact Sel.nil | exact Del.here | apply Del.there | apply Sel.cons | apply Sel.drop))), ⟨by omega, by rw [show (el (endsM G i) n) = _ from hel] at c7; omega⟩⟩ (by first | omega | (dsimp only; omega))
      · rw [show (el (endsM G i) n) = _ from hel] at c7
        refine W.exit ?_
        refine WX.thenExit ?_
        refine WX.thenExit ?_
        refine WX.blockHere ?_
        refine WX.join (n) (by (repeat' (first | exact envSub.nil | refine envSub.cons ?_ ?_)) <;> first | rfl | (refine congrArg some ?_; refine congrArg (Value.int _) ?_; first | omega | (dsimp only; omega)) | (simp; done) | (refine congrArg some ?_; dsimp only; congr 1; omega) | (simp; omega)) ⟨M.sel (by first | ((repeat (first | with_reducible exact Sel.refl | with_reducible exact Sel.nil | with_reducible exact Del.here | with_reducible apply Del.there | with_reducible apply Sel.cons | with_reducible apply Sel.drop)); done) | (repeat (first | exact Sel.refl | exact Sel.nil | exact Del.here | apply Del.there | apply Sel.cons | apply Sel.drop))), ⟨hn, hnc, fun _ => by omega⟩⟩
    · refine WL.off rfl rfl rfl rfl ?_
      refine WL.off rfl rfl rfl rfl ?_
      refine WL.off rfl rfl rfl rfl ?_
      refine WL.off rfl rfl rfl rfl ?_
      refine WL.off rfl rfl rfl rfl ?_
      refine WL.off rfl rfl rfl rfl ?_
      refine WL.pickF rfl rfl rfl ?_
      refine WL.nil ?_
      refine WX.next ?_
      refine W.sub [(0, _), (1, _), (5, _), (6, _), (10, _), (73, _)] (.cons rfl (.cons rfl (.cons rfl (.cons rfl (.cons rfl (.cons rfl .nil)))))) ?_
      refine W.condF rfl ?_
      refine W.exit ?_
      refine WX.thenExit ?_
      refine WX.thenExit ?_
      refine WX.blockHere ?_
      refine WX.join (n) (by (repeat' (first | exact envSub.nil | refine envSub.cons ?_ ?_)) <;> first | rfl | (refine congrArg some ?_; refine congrArg (Value.int _) ?_; first | omega | (dsimp only; omega)) | (simp; done) | (refine congrArg some ?_; dsimp only; congr 1; omega) | (simp; omega)) ⟨M.sel (by first | ((repeat (first | with_reducible exact Sel.refl | with_reducible exact Sel.nil | with_reducible exact Del.here | with_reducible apply Del.there | with_reducible apply Sel.cons | with_reducible apply Sel.drop)); done) | (repeat (first | exact Sel.refl | exact Sel.nil | exact Del.here | apply Del.there | apply Sel.cons | apply Sel.drop))), ⟨hn, hnc, fun h => by omega⟩⟩
  clear M; rintro (n) w ⟨M, ⟨hn, hnc, hn2⟩⟩; dsimp only at M hn hnc hn2 ⊢
  refine W.sub [(0, _), (1, _), (5, _), (6, _), (10, _)] (.cons rfl (.cons rfl (.cons rfl (.cons rfl (.cons rfl .nil))))) ?_
  clear hc
  have hle := Rd.le (M.rdB (by first | ((repeat (first | with_reducible exact Has.here | with_reducible refine Has.there ?_)); done) | (repeat (first | exact Has.here | refine Has.there ?_))) : RdB w B cB (catM G))
  obtain ⟨X, hs, hXl, hXs⟩ := split_cat n G c hgd (by omega) hcl hnc (fun h => hn2 (by omega))
  have hEl := endsM_length G i
  refine W.seq ?_
  refine W.region ?_
  refine WL.move rfl rfl ?_
  refine WL.move rfl rfl ?_
  refine WL.cutH (m' := ((catM G).take c).length) Try.underlying25 Try.sizeOf5 rfl rfl (by omega) (by omega) (by first | (rw [sub_length (by omega) (by omega)]) | (simp only [List.length_drop] <;> omega) | (simp only [List.length_take] <;> omega) | (simp only [List.length_take, List.length_drop] <;> omega) | (simp; done) | (simp; omega)) rfl ?_
  refine WL.call Try.call26 rfl (Split_ok (b := (catM G).take c) (by rw [List.length_take]; omega) (by first | first | with_reducible assumption | with_reducible exact RdB.mem (by with_reducible assumption) M | exact M.rdB (by first | ((repeat (first | with_reducible exact Has.here | with_reducible refine Has.there ?_)); done) | (repeat (first | exact Has.here | refine Has.there ?_))) | exact RdH.at (by assumption) (M.sel (by first | ((repeat (first | with_reducible exact Sel.refl | with_reducible exact Sel.nil | with_reducible exact Del.here | with_reducible apply Del.there | with_reducible apply Sel.cons | with_reducible apply Sel.drop)); done) | (repeat (first | exact Sel.refl | exact Sel.nil | exact Del.here | apply Del.there | apply Sel.cons | apply Sel.drop)))) | exact M.rdLit' (by first | ((repeat (first | with_reducible exact Has.here | with_reducible refine Has.there ?_)); done) | (repeat (first | exact Has.here | refine Has.there ?_))) | exact M.rdLent (by first | ((repeat (first | with_reducible exact Has.here | with_reducible refine Has.there ?_)); done) | (repeat (first | exact Has.here | refine Has.there ?_))) | exact RdB.nil _ _ | exact RdB.sub (by first | with_reducible assumption | with_reducible exact RdB.mem (by with_reducible assumption) M | exact M.rdB (by first | ((repeat (first | with_reducible exact Has.here | with_reducible refine Has.there ?_)); done) | (repeat (first | exact Has.here | refine Has.there ?_))) | exact RdH.at (by assumption) (M.sel (by first | ((repeat (first | with_reducible exact Sel.refl | with_reducible exact Sel.nil | with_reducible exact Del.here | with_reducible apply Del.there | with_reducible apply Sel.cons | with_reducible apply Sel.drop)); done) | (repeat (first | exact Sel.refl | exact Sel.nil | exact Del.here | apply Del.there | apply Sel.cons | apply Sel.drop)))) | exact M.rdLit' (by first | ((repeat (first | with_reducible exact Has.here | with_reducible refine Has.there ?_)); done) | (repeat (first | exact Has.here | refine Has.there ?_))) | exact M.rdLent (by first | ((repeat (first | with_reducible exact Has.here | with_reducible refine Has.there ?_)); done) | (repeat (first | exact Has.here | refine Has.there ?_))) | exact RdB.nil _ _) (by omega) (by omega) | exact RdB.pre' (by first | with_reducible assumption | with_reducible exact RdB.mem (by with_reducible assumption) M | exact M.rdB (by first | ((repeat (first | with_reducible exact Has.here | with_reducible refine Has.there ?_)); done) | (repeat (first | exact Has.here | refine Has.there ?_))) | exact RdH.at (by assumption) (M.sel (by first | ((repeat (first | with_reducible exact Sel.refl | with_reducible exact Sel.nil | with_reducible exact Del.here | with_reducible apply Del.there | with_reducible apply Sel.cons | with_reducible apply Sel.drop)); done) | (repeat (first | exact Sel.refl | exact Sel.nil | exact Del.here | apply Del.there | apply Sel.cons | apply Sel.drop)))) | exact M.rdLit' (by first | ((repeat (first | with_reducible exact Has.here | with_reducible refine Has.there ?_)); done) | (repeat (first | exact Has.here | refine Has.there ?_))) | exact M.rdLent (by first | ((repeat (first | with_reducible exact Has.here | with_reducible refine Has.there ?_)); done) | (repeat (first | exact Has.here | refine Has.there ?_))) | exact RdB.nil _ _) (by omega) | exact RdB.suf (by first | with_reducible assumption | with_reducible exact RdB.mem (by with_reducible assumption) M | exact M.rdB (by first | ((repeat (first | with_reducible exact Has.here | with_reducible refine Has.there ?_)); done) | (repeat (first | exact Has.here | refine Has.there ?_))) | exact RdH.at (by assumption) (M.sel (by first | ((repeat (first | with_reducible exact Sel.refl | with_reducible exact Sel.nil | with_reducible exact Del.here | with_reducible apply Del.there | with_reducible apply Sel.cons | with_reducible apply Sel.drop)); done) | (repeat (first | exact Sel.refl | exact Sel.nil | exact Del.here | apply Del.there | apply Sel.cons | apply Sel.drop)))) | exact M.rdLit' (by first | ((repeat (first | with_reducible exact Has.here | with_reducible refine Has.there ?_)); done) | (repeat (first | exact Has.here | refine Has.there ?_))) | exact M.rdLent (by first | ((repeat (first | with_reducible exact Has.here | with_reducible refine Has.there ?_)); done) | (repeat (first | exact Has.here | refine Has.there ?_))) | exact RdB.nil _ _) (by omega))) rfl ?_
  rintro _ w ⟨A18, cap18, qs, rfl, hq, m⟩
  replace M := M.call2 m; clear m
  rw [hs] at hq ⊢
  dsimp only at hq ⊢
  have hql : qs.length = n := by rw [← hXl, ← hq, List.length_map]
  refine WL.move rfl rfl ?_
  refine WL.extractL rfl rfl rfl ?_
  refine WL.extractL rfl rfl rfl ?_
  refine WL.extractL rfl rfl rfl ?_
  refine WL.assign rfl rfl ?_
  refine WL.assign rfl rfl ?_
  refine WL.assign rfl rfl ?_
  refine WL.nil ?_
  refine WX.next ?_
  refine W.sub [(0, _), (6, _), (10, _), (11, _), (12, _), (13, _)] (.cons rfl (.cons rfl (.cons rfl (.cons rfl (.cons rfl (.cons rfl .nil)))))) ?_
  refine W.seq ?_
  refine W.region ?_
  refine WL.assign rfl rfl ?_
  refine WL.nil ?_
  refine WX.next ?_
  refine W.sub [(0, _), (6, _), (10, _), (11, _), (12, _), (13, _), (14, _)] (.cons rfl (.cons rfl (.cons rfl (.cons rfl (.cons rfl (.cons rfl (.cons rfl .nil))))))) ?_
  refine W.joint (fun (_ : Unit) => [(0, .slice A ps.length cap), (10, .int .i64 (n : Int)), (11, .slice A18 qs.length cap18), (12, .int .i64 ((catM (G.take n)).length : Int)), (13, .int .i64 0), (14, .int .i64 ((catM (G.take n)).length : Int))]) (fun j w => Mem w0 w ((fun _ => [Asr.lst pduE A18 cap18 qs, Asr.star (qs.map PdX.O)]) j) ∧ (fun _ => True) j) ?_ ?_
  · refine W.seq ?_
    refine W.region ?_
    refine WL.move rfl rfl ?_
    refine WL.gtr rfl rfl rfl ?_
    refine WL.nil ?_
    refine WX.next ?_
    refine W.sub [(0, _), (6, _), (10, _), (11, _), (12, _), (13, _), (14, _), (85, _)] (.cons rfl (.cons rfl (.cons rfl (.cons rfl (.cons rfl (.cons rfl (.cons rfl (.cons rfl .nil)))))))) ?_
    refine W.ite rfl (fun c8 => ?_) (fun c8 => ?_)
    · have hel := endsM_el G (i := i) (j := n - 1) (by omega)
      rw [Nat.sub_add_cancel (by omega)] at hel
      refine W.region ?_
      refine WL.move rfl rfl ?_
      refine WL.move rfl rfl ?_
      refine WL.sub' rfl rfl (by first | exact wI64 (by omega) | rfl) rfl ?_
      refine WL.idxA Try.underlying64 Try.sizeOf3 rfl rfl (RdL.isSome (E := intE) (by first | with_reducible assumption | with_reducible exact RdL.mem (by with_reducible assumption) M | exact M.rdL (by first | ((repeat (first | with_reducible exact Has.here | with_reducible refine Has.there ?_)); done) | (repeat (first | exact Has.here | refine Has.there ?_))) | exact RdLH.at (by assumption) (M.sel (by first | ((repeat (first | with_reducible exact Sel.refl | with_reducible exact Sel.nil | with_reducible exact Del.here | with_reducible apply Del.there | with_reducible apply Sel.cons | with_reducible apply Sel.drop)); done) | (repeat (first | exact Sel.refl | exact Sel.nil | exact Del.here | apply Del.there | apply Sel.cons | apply Sel.drop)))) | exact RdL.nil _ _ _) (by omega)) (by omega) (by omega) (by show (n : Int) - 1 = ((n - 1 : Nat) : Int); omega) rfl ?_
      refine WL.loadE0 (E := intE) Try.isAgg3 rfl (by first | with_reducible assumption | with_reducible exact RdL.mem (by with_reducible assumption) M | exact M.rdL (by first | ((repeat (first | with_reducible exact Has.here | with_reducible refine Has.there ?_)); done) | (repeat (first | exact Has.here | refine Has.there ?_))) | exact RdLH.at (by assumption) (M.sel (by first | ((repeat (first | with_reducible exact Sel.refl | with_reducible exact Sel.nil | with_reducible exact Del.here | with_reducible apply Del.there | with_reducible apply Sel.cons | with_reducible apply Sel.drop)); done) | (repeat (first | exact Sel.refl | exact Sel.nil | exact Del.here | apply Del.there | apply Sel.cons | apply Sel.drop)))) | exact RdL.nil _ _ _) (by omega) rfl rfl ?_
      rw [show (el (endsM G i) (n - 1)) = _ from hel]
      refine WL.assign rfl rfl ?_
      refine WL.nil ?_
      refine WX.join (()) (by (repeat' (first | exact envSub.nil | refine envSub.cons ?_ ?_)) <;> first | rfl | (refine congrArg some ?_; refine congrArg (Value.int _) ?_; first | omega | (dsimp only; omega)) | (simp; done) | (refine congrArg some ?_; dsimp only; congr 1; omega) | (simp; omega)) ⟨M.sel (by first | ((repeat (first | with_reducible exact Sel.refl | with_reducible exact Sel.nil | with_reducible exact Del.here | with_reducible apply Del.there | with_reducible apply Sel.cons | with_reducible apply Sel.drop)); done) | (repeat (first | exact Sel.refl | exact Sel.nil | exact Del.here | apply Del.there | apply Sel.cons | apply Sel.drop))), (by first | trivial | omega | (dsimp only; omega) | (simp; done))⟩
    · have hn0 : n = 0 := by omega
      subst hn0
      refine W.skip ?_
      refine WX.join (()) (by (repeat' (first | exact envSub.nil | refine envSub.cons ?_ ?_)) <;> first | rfl | (refine congrArg some ?_; refine congrArg (Value.int _) ?_; first | omega | (dsimp only; omega)) | (simp; done) | (refine congrArg some ?_; dsimp only; congr 1; omega) | (simp; omega)) ⟨M.sel (by first | ((repeat (first | with_reducible exact Sel.refl | with_reducible exact Sel.nil | with_reducible exact Del.here | with_reducible apply Del.there | with_reducible apply Sel.cons | with_reducible apply Sel.drop)); done) | (repeat (first | exact Sel.refl | exact Sel.nil | exact Del.here | apply Del.there | apply Sel.cons | apply Sel.drop))), (by first | trivial | omega | (dsimp only; omega) | (simp; done))⟩
  clear M; rintro (_) w ⟨M, -⟩; dsimp only at M ⊢
  refine W.sub [(0, _), (10, _), (11, _), (12, _), (13, _), (14, _)] (.cons rfl (.cons rfl (.cons rfl (.cons rfl (.cons rfl (.cons rfl .nil)))))) ?_
  refine W.seq ?_
  refine W.region ?_
  have hn' : n ≤ ps.length := by omega
  have hsame : qs.length = (ps.take n).length ∧ ∀ j, j < qs.length → SameM (el qs j).m (el (ps.take n) j).m := by
    refine ⟨by rw [List.length_take]; omega, fun j hj => ?_⟩
    have s1 := hXs j (by omega)
    rw [hGs j (by omega), ← hq] at s1
    have e1 : el (qs.map PdX.m) j = (el qs j).m := by simp [el, hj]
    have e2 : el (ps.take n) j = el ps j := by simp [el, List.getElem?_take, show j < n by omega]
    rw [e1] at s1
    rw [e2]
    exact s1
  refine WL.move rfl rfl ?_
  refine WL.eqI rfl rfl rfl ?_
  refine WL.moveIf rfl rfl (fun c9 => ?_) (fun c9 => ?_)
  · refine WL.on rfl rfl ?_
    refine WL.move rfl rfl ?_
    refine WL.on rfl rfl ?_
    refine WL.move rfl rfl ?_
    refine WL.on rfl rfl ?_
    refine WL.eqI rfl rfl rfl ?_
    refine WL.pickT rfl rfl rfl ?_
    refine WL.moveIf rfl rfl (fun c10 => ?_) (fun c10 => ?_)
    · refine WL.on rfl rfl ?_
      refine WL.move rfl rfl ?_
      refine WL.on rfl rfl ?_
      refine WL.move rfl rfl ?_
      refine WL.on rfl rfl ?_
      refine WL.move rfl rfl ?_
      refine WL.on rfl rfl ?_
      refine WL.cutH (m' := (ps.take n).length) Try.underlying55 Try.sizeOf27 rfl rfl (by omega) (by omega) (by rw [List.length_take]; omega) rfl ?_
      refine WL.on rfl rfl ?_
      refine WL.call Try.call28 rfl (Sames_ok (by first | with_reducible assumption | with_reducible exact RdL.mem (by with_reducible assumption) M | exact M.rdL (by first | ((repeat (first | with_reducible exact Has.here | with_reducible refine Has.there ?_)); done) | (repeat (first | exact Has.here | refine Has.there ?_))) | exact RdLH.at (by assumption) (M.sel (by first | ((repeat (first | with_reducible exact Sel.refl | with_reducible exact Sel.nil | with_reducible exact Del.here | with_reducible apply Del.there | with_reducible apply Sel.cons | with_reducible apply Sel.drop)); done) | (repeat (first | exact Sel.refl | exact Sel.nil | exact Del.here | apply Del.there | apply Sel.cons | apply Sel.drop)))) | exact RdL.nil _ _ _) ((h.pre hn').mem M) (M.starRdP (by first | ((repeat (first | with_reducible exact Has.here | with_reducible refine Has.there ?_)); done) | (repeat (first | exact Has.here | refine Has.there ?_)))) (fun f hf' => (hin f (List.mem_of_mem_take hf')).2.mem M) (by omega)) rfl ?_
      rintro _ w ⟨rfl, m⟩
      replace M := M.call0 m; clear m
      refine WL.pickT rfl rfl rfl ?_
      refine WL.moveIf rfl rfl (fun c11 => ?_) (fun c11 => ?_)
      · refine WL.on rfl rfl ?_
        refine WL.call Try.call9 rfl (known20_ok _) rfl ?_
        rintro _ w ⟨rfl, m⟩
        replace M := M.call0 m; clear m
        refine WL.pickT rfl rfl rfl ?_
        refine WL.assign rfl rfl ?_
        refine WL.nil ?_
        refine WX.next ?_
        refine W.sub [(4, _)] (.cons rfl .nil) ?_
        refine W.ret ?_
        refine WX.ret1 rfl rfl ?_
        exact ⟨by simp, M.sel (by first | ((repeat (first | with_reducible exact Sel.refl | with_reducible exact Sel.nil | with_reducible exact Del.here | with_reducible apply Del.there | with_reducible apply Sel.cons | with_reducible apply Sel.drop)); done) | (repeat (first | exact Sel.refl | exact Sel.nil | exact Del.here | apply Del.there | apply Sel.cons | apply Sel.drop)))⟩
      · exact absurd hsame c11
    · exact absurd rfl c10
  · exact absurd rfl c9
end Go.Proofs.Ytinbcidgdbmcjaa
