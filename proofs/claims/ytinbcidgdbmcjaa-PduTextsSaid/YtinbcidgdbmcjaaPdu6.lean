/-
  Walk: the bytes of pairs (pdu).
-/
import Derived.Test.YtinbcidgdbmcjaaPdu5
namespace Go.Proofs.Ytinbcidgdbmcjaa
open Go Go.RowKit Go.Lib Bin

/-- A pair of texts. -/
abbrev Pr := List UInt8 × List UInt8
def pairE : Enc Pr := ⟨68, 2, fun p => [str p.1, str p.2], fun _ => rfl, (fun a v hv => by
  simp only [List.mem_cons, List.not_mem_nil, or_false] at hv
  rcases hv with rfl | rfl <;> rfl), by decide⟩
theorem Try.elem68 : Elem Try.prog 66 68 2 32 := by
  obtain ⟨i, hi, h1, h2, h3⟩ := info_parts (P := Try.prog) (e := 68) (z := .agg #[str [], str []]) (size := 2) (bytes := 32) (by kernel_rfl)
  exact ⟨Try.underlying66, ⟨i, _, hi, h1, h2, h3, rfl⟩, by decide⟩
theorem pIndexFunc_ok {A : Option Addr} {cap : Nat} {l : List Pr} {w0 : World} (h : RdL w0 pairE A cap l) (f : FuncId) (cs : Array Value) (p : Pr → Bool) (hcall : ∀ (args : Array Value) (w : World), (callFunc f args).run Try.prog w = .ok (.enter f args) w)
    (hp : ∀ x w, Mem w0 w [] → Fn Try.prog f ([.agg #[str x.1, str x.2]] ++ cs.toList) w fun v w' => v = .bool (p x) ∧ Mem w w' []) (hl : l.length ≤ 1000000) :
    Fn Try.prog 58 [.slice A l.length cap, .func (.func f) #[] cs] w0 fun v w' => (∃ z : Int, v = .int .i64 z ∧ decide (0 ≤ z) = l.any p) ∧ Mem w0 w' [] := by
  have M := Mem.refl w0
  obtain ⟨w, hw⟩ : ∃ w, w = w0 := ⟨w0, rfl⟩
  refine Fn.enter Try.func58 rfl Try.ntmps58 rfl ?_
  refine W.sub [(0, _), (1, _)] (.cons rfl (.cons rfl .nil)) ?_
  refine W.seq ?_
  refine W.region ?_
  refine WL.assign rfl rfl ?_
  refine WL.nil ?_
  refine WX.next ?_
  refine W.sub [(0, _), (1, _)] (.cons rfl (.cons rfl .nil)) ?_
  refine W.seq ?_
  refine W.seq ?_
  refine W.region ?_
  refine WL.move rfl rfl ?_
  refine WL.len Try.underlying66 rfl rfl ?_
  refine WL.move rfl rfl ?_
  refine WL.nil ?_
  refine WX.next ?_
  refine W.sub [(0, _), (1, _), (7, _), (8, _)] (.cons rfl (.cons rfl (.cons rfl (.cons rfl .nil)))) ?_
  refine W.block ?_
  refine W.loop (ι := Nat) (fun i => [(0, .slice A l.length cap), (1, .func (.func f) #[] cs), (7, .int .i64 (l.length : Int)), (8, .int .i64 (i : Int))]) (fun zz w => Mem w0 w ((fun _ => []) zz) ∧ (fun i => i ≤ l.length ∧ ∀ j, j < i → p (el l j) = false) zz) (fun i => l.length - i) (0) (by (repeat' (first | exact envSub.nil | refine envSub.cons ?_ ?_)) <;> first | rfl | (refine congrArg some ?_; refine congrArg (Value.int _) ?_; first | omega | (dsimp only; omega)) | (simp; done) | (refine congrArg some ?_; dsimp only; congr 1; omega) | (simp; omega)) ⟨M.sel (by first | ((repeat (first | with_reducible exact Sel.refl | with_reducible exact Sel.nil | with_reducible exact Del.here | with_reducible apply Del.there | with_reducible apply Sel.cons | with_reducible apply Sel.drop)); done) | (repeat (first | exact Sel.refl | exact Sel.nil | exact Del.here | apply Del.there | apply Sel.cons | apply Sel.drop))), ⟨by omega, fun j hj => absurd hj (by omega)⟩⟩ ?_
  clear M; rintro (i) w ⟨M, ⟨hi, hs⟩⟩; dsimp only at M hi hs ⊢
  refine W.sub [(0, _), (1, _), (7, _), (8, _)] (.cons rfl (.cons rfl (.cons rfl (.cons rfl .nil)))) ?_
  refine W.seq ?_
  refine W.region ?_
  refine WL.lss rfl rfl rfl ?_
  refine WL.nil ?_
  refine WX.next ?_
  refine W.sub [(0, _), (1, _), (7, _), (8, _), (9, _)] (.cons rfl (.cons rfl (.cons rfl (.cons rfl (.cons rfl .nil))))) ?_
  refine W.seq ?_
  refine W.ite rfl (fun c0 => ?_) (fun c0 => ?_)
  · refine W.skip ?_
    refine WX.next ?_
    refine W.seq ?_
    refine W.block ?_
    refine W.seq ?_
    refine W.region ?_
    refine WL.move rfl rfl ?_
    refine WL.assign rfl rfl ?_
    refine WL.nil ?_
    refine WX.next ?_
    refine W.sub [(0, _), (1, _), (5, _), (7, _), (8, _)] (.cons rfl (.cons rfl (.cons rfl (.cons rfl (.cons rfl .nil))))) ?_
    refine W.seq ?_
    refine W.region ?_
    refine WL.move rfl rfl ?_
    refine WL.move rfl rfl ?_
    refine WL.move rfl rfl ?_
    refine WL.idxA Try.underlying66 Try.sizeOf68 rfl rfl (RdL.isSome (E := pairE) (by first | with_reducible assumption | with_reducible exact RdL.mem (by with_reducible assumption) M | exact M.rdL (by first | ((repeat (first | with_reducible exact Has.here | with_reducible refine Has.there ?_)); done) | (repeat (first | exact Has.here | refine Has.there ?_))) | exact RdLH.at (by assumption) (M.sel (by first | ((repeat (first | with_reducible exact Sel.refl | with_reducible exact Sel.nil | with_reducible exact Del.here | with_reducible apply Del.there | with_reducible apply Sel.cons | with_reducible apply Sel.drop)); done) | (repeat (first | exact Sel.refl | exact Sel.nil | exact Del.here | apply Del.there | apply Sel.cons | apply Sel.drop)))) | exact RdL.nil _ _ _) (by omega)) (by omega) (by omega) (by first | exact rfl | exact (Int.toNat_of_nonneg (by omega)).symm) rfl ?_
    refine WL.loadL (E := pairE) (cs := [_, _]) Try.isAgg68 Try.sizeOf68 rfl (by first | with_reducible assumption | with_reducible exact RdL.mem (by with_reducible assumption) M | exact M.rdL (by first | ((repeat (first | with_reducible exact Has.here | with_reducible refine Has.there ?_)); done) | (repeat (first | exact Has.here | refine Has.there ?_))) | exact RdLH.at (by assumption) (M.sel (by first | ((repeat (first | with_reducible exact Sel.refl | with_reducible exact Sel.nil | with_reducible exact Del.here | with_reducible apply Del.there | with_reducible apply Sel.cons | with_reducible apply Sel.drop)); done) | (repeat (first | exact Sel.refl | exact Sel.nil | exact Del.here | apply Del.there | apply Sel.cons | apply Sel.drop)))) | exact RdL.nil _ _ _) rfl (by omega) rfl rfl ?_
    refine WL.callV hcall rfl rfl (hp (el l i) _ M) rfl ?_
    rintro _ w ⟨rfl, m⟩
    replace M := M.call0 m; clear m
    refine WL.nil ?_
    refine WX.next ?_
    refine W.sub [(0, _), (1, _), (5, _), (7, _), (8, _), (16, _)] (.cons rfl (.cons rfl (.cons rfl (.cons rfl (.cons rfl (.cons rfl .nil)))))) ?_
    refine W.cond rfl (fun c1 => ?_) (fun c1 => ?_)
    · (try simp only [Bool.not_eq_true'] at c1); (try simp only [Bool.not_eq_false'] at c1); (try simp only [decide_eq_true_eq] at c1); (try simp only [decide_eq_false_iff_not] at c1)
      refine W.seq ?_
      refine W.region ?_
      refine WL.move rfl rfl ?_
      refine WL.assign rfl rfl ?_
      refine WL.nil ?_
      refine WX.next ?_
      refine W.sub [(4, _)] (.cons rfl .nil) ?_
      refine W.ret ?_
      refine WX.blockRet ?_
      refine WX.thenRet ?_
      refine WX.thenRet ?_
      refine WX.blockRet ?_
      refine WX.thenRet ?_
      refine WX.ret1 rfl rfl ?_
      exact ⟨⟨_, rfl, by rw [decide_eq_true (by omega)]; exact (List.any_eq_true.2 ⟨_, el_mem (by omega), c1⟩).symm⟩, M⟩
    · (try simp only [Bool.not_eq_true'] at c1); (try simp only [Bool.not_eq_false'] at c1); (try simp only [decide_eq_true_eq] at c1); (try simp only [decide_eq_false_iff_not] at c1)
      refine W.skip ?_
      refine WX.blockNormal ?_
      refine WX.next ?_
      refine W.region ?_
      refine WL.add rfl rfl (by first | exact wI64 (by omega) | rfl) rfl ?_
      refine WL.move rfl rfl ?_
      refine WL.nil ?_
      skip
      have q : ∀ j, j < i + 1 → p (el l j) = false := by
        intro j hj
        rcases Nat.lt_or_ge j i with h1 | h1
        · exact hs j h1
        · obtain rfl : j = i := by omega
          simpa using c1
      refine WX.round (i + 1) (by (repeat' (first | exact envSub.nil | refine envSub.cons ?_ ?_)) <;> first | rfl | (refine congrArg some ?_; refine congrArg (Value.int _) ?_; first | omega | (dsimp only; omega)) | (simp; done) | (refine congrArg some ?_; dsimp only; congr 1; omega) | (simp; omega)) ⟨M.sel (by first | ((repeat (first | with_reducible exact Sel.refl | with_reducible exact Sel.nil | with_reducible exact Del.here | with_reducible apply Del.there | with_reducible apply Sel.cons | with_reducible apply Sel.drop)); done) | (repeat (first | exact Sel.refl | exact Sel.nil | exact Del.here | apply Del.there | apply Sel.cons | apply Sel.drop))), ⟨by omega, q⟩⟩ (by first | omega | (dsimp only; omega))
  · refine W.exit ?_
    refine WX.thenExit ?_
    refine WX.thenExit ?_
    refine WX.blockHere ?_
    refine WX.next ?_
    refine W.seq ?_
    refine W.region ?_
    refine WL.assign rfl rfl ?_
    refine WL.nil ?_
    refine WX.next ?_
    refine W.sub [(4, _)] (.cons rfl .nil) ?_
    refine W.ret ?_
    refine WX.ret1 rfl rfl ?_
    obtain rfl : i = l.length := by omega
    exact ⟨⟨_, rfl, by
      rw [decide_eq_false (by omega)]
      symm
      rw [List.any_eq_false]
      intro x hx
      obtain ⟨j, hj, rfl⟩ := List.getElem_of_mem hx
      have := hs j hj
      simpa [el, hj] using this⟩, M⟩
theorem pContainsFunc_ok {A : Option Addr} {cap : Nat} {l : List Pr} {w0 : World} (h : RdL w0 pairE A cap l) (f : FuncId) (cs : Array Value) (p : Pr → Bool) (hcall : ∀ (args : Array Value) (w : World), (callFunc f args).run Try.prog w = .ok (.enter f args) w)
    (hp : ∀ x w, Mem w0 w [] → Fn Try.prog f ([.agg #[str x.1, str x.2]] ++ cs.toList) w fun v w' => v = .bool (p x) ∧ Mem w w' []) (hl : l.length ≤ 1000000) :
    Fn Try.prog 47 [.slice A l.length cap, .func (.func f) #[] cs] w0 fun v w' => v = .bool (l.any p) ∧ Mem w0 w' [] := by
  have M := Mem.refl w0
  obtain ⟨w, hw⟩ : ∃ w, w = w0 := ⟨w0, rfl⟩
  refine Fn.enter Try.func47 rfl Try.ntmps47 rfl ?_
  refine W.sub [(0, _), (1, _)] (.cons rfl (.cons rfl .nil)) ?_
  refine W.seq ?_
  refine W.region ?_
  refine WL.assign rfl rfl ?_
  refine WL.nil ?_
  refine WX.next ?_
  refine W.sub [(0, _), (1, _)] (.cons rfl (.cons rfl .nil)) ?_
  refine W.seq ?_
  refine W.region ?_
  refine WL.move rfl rfl ?_
  refine WL.move rfl rfl ?_
  refine WL.call Try.call58 rfl (pIndexFunc_ok (h.mem M) f cs p hcall hp hl) rfl ?_
  rintro _ w ⟨⟨z, rfl, hz⟩, m⟩
  replace M := M.call0 m; clear m
  refine WL.geq rfl rfl rfl ?_
  refine WL.assign rfl rfl ?_
  refine WL.nil ?_
  refine WX.next ?_
  refine W.sub [(4, _)] (.cons rfl .nil) ?_
  refine W.ret ?_
  refine WX.ret1 rfl rfl ?_
  exact ⟨congrArg Value.bool hz, M⟩
theorem PutTexts1_ok {g : Nat} (p x : Pr) {w0 : World} (hg : RdL w0 pairE (some ⟨g, 0, none⟩) 1 [p]) : Fn Try.prog 48 [.agg #[str x.1, str x.2], .pointer (some ⟨g, 0, none⟩)] w0 fun v w' => v = .bool (decide (x.1 = p.1)) ∧ Mem w0 w' [] := by
  have M := Mem.refl w0
  obtain ⟨w, hw⟩ : ∃ w, w = w0 := ⟨w0, rfl⟩
  refine Fn.enter Try.func48 rfl Try.ntmps48 rfl ?_
  refine W.sub [(0, _), (1, _)] (.cons rfl (.cons rfl .nil)) ?_
  refine W.seq ?_
  refine W.region ?_
  refine WL.box rfl M rfl ?_
  intro g0_0 w M
  try simp only [Value.cells] at M
  try simp only [List.toList_toArray] at M
  refine WL.assign rfl rfl ?_
  refine WL.nil ?_
  refine WX.next ?_
  refine W.sub [(1, _), (2, _)] (.cons rfl (.cons rfl .nil)) ?_
  refine W.seq ?_
  refine W.region ?_
  refine WL.fieldR (off := 0) Try.underlying68 rfl rfl Try.sizeOf9 rfl rfl rfl ?_
  refine WL.loadR Try.isAgg9 rfl M (by first | ((repeat (first | with_reducible exact Has.here | with_reducible refine Has.there ?_)); done) | (repeat (first | exact Has.here | refine Has.there ?_))) rfl rfl ?_
  refine WL.fieldR (off := 0) Try.underlying68 rfl rfl Try.sizeOf9 rfl rfl rfl ?_
  refine WL.load Try.isAgg9 rfl (by have := (hg.mem M).cell (k := 0) (o := 0) (v := str p.1) (by simp) rfl; exact this) rfl ?_
  refine WL.eqS rfl rfl rfl ?_
  refine WL.assign rfl rfl ?_
  refine WL.nil ?_
  refine WX.next ?_
  refine W.sub [(3, _)] (.cons rfl .nil) ?_
  refine W.ret ?_
  refine WX.ret1 rfl rfl ?_
  exact ⟨rfl, M.sel (by first | ((repeat (first | with_reducible exact Sel.refl | with_reducible exact Sel.nil | with_reducible exact Del.here | with_reducible apply Del.there | with_reducible apply Sel.cons | with_reducible apply Sel.drop)); done) | (repeat (first | exact Sel.refl | exact Sel.nil | exact Del.here | apply Del.there | apply Sel.cons | apply Sel.drop)))⟩
theorem PutTexts1_call : ∀ (args : Array Value) (w : World), (callFunc 48 args).run Try.prog w = .ok (.enter 48 args) w := Try.call48
/-- Pairs' bytes. -/
def txt (p : Pr) : List UInt8 := ((p.1 ++ [61]) ++ p.2) ++ [0]
def putT (l : List Pr) : List UInt8 := l.flatMap txt
def pairP (p : Pr) : Prop := keyP p.1 ∧ 0 ∉ p.2 ∧ p.2.length ≤ 255
instance (p : Pr) : Decidable (pairP p) := by unfold pairP; infer_instance
/-- A pair may be behind others. -/
def goodP (l : List Pr) (i : Nat) : Prop := ((l.take i).any fun q => decide (q.1 = (el l i).1)) = false ∧ pairP (el l i)
instance (l : List Pr) (i : Nat) : Decidable (goodP l i) := by unfold goodP; infer_instance
def putTE (l : List Pr) : Int := if 32 < l.length then 200 else if ¬ ∀ i, i < l.length → goodP l i then 200 else if 4096 < (putT l).length then 3 else 0
theorem txt_length {p : Pr} (h : pairP p) : (txt p).length ≤ 320 := by
  unfold txt
  have := h.1.2.1
  have := h.2.2
  simp
  omega
theorem take_snocP {l : List Pr} {i : Nat} (h : i < l.length) : l.take (i + 1) = l.take i ++ [el l i] := by
  have e : el l i = l[i] := by simp [el, h]
  rw [e, List.take_succ_eq_append_getElem h]
theorem row1 {w0 w : World} {L : List Asr} {g : Nat} (p : Pr) (M : Mem w0 w L) (h : Has (Asr.row g 68 [str p.1, str p.2]) L) : RdL w pairE (some ⟨g, 0, none⟩) 1 [p] := by
  refine ⟨rfl, Nat.le_refl _, fun _ => ⟨_, rfl, ?_, fun j v hv => ?_⟩⟩
  · obtain ⟨L', hd⟩ := h.del
    exact (Array.getElem?_eq_some_iff.1 (M.del hd).head).1
  · rw [add_lit, Nat.zero_add, M.cellH h]
    exact hv
set_option maxRecDepth 10000 in
theorem PutTexts_ok {A : Option Addr} {cap : Nat} {l : List Pr} (hl : l.length ≤ 1000000) (hs : ∀ p ∈ l, p.1.length ≤ 100000 ∧ p.2.length ≤ 100000) {w0 : World} (h : RdL w0 pairE A cap l) :
    Fn Try.prog 30 [.slice A l.length cap] w0 fun v w' => ∃ x' : OX, v = .tuple #[x'.v, .int .i64 (putTE l)] ∧ Mem w0 w' [x'.O] ∧ x'.l = if putTE l = 0 then putT l else [] := by
  have M := Mem.refl w0
  obtain ⟨w, hw⟩ : ∃ w, w = w0 := ⟨w0, rfl⟩
  have bad : ∀ (e : Int) (w : World) (L : List Asr), Mem w0 w L → e ≠ 0 → putTE l = e → ∃ x' : OX, Value.tuple #[.slice none 0 0, .int .i64 e] = .tuple #[x'.v, .int .i64 (putTE l)] ∧ Mem w0 w [x'.O] ∧ x'.l = if putTE l = 0 then putT l else [] := by
    intro e w L M he hg
    exact ⟨⟨none, 0, []⟩, by rw [hg]; rfl, (M.sel (.nil)).nilOwn 5 1, by rw [hg, if_neg he]⟩
  refine Fn.enter Try.func30 rfl Try.ntmps30 rfl ?_
  refine W.sub [(0, _)] (.cons rfl .nil) ?_
  refine W.seq ?_
  refine W.region ?_
  refine WL.assign rfl rfl ?_
  refine WL.assign rfl rfl ?_
  refine WL.nil ?_
  refine WX.next ?_
  refine W.sub [(0, _)] (.cons rfl .nil) ?_
  refine W.seq ?_
  refine W.seq ?_
  refine W.region ?_
  refine WL.move rfl rfl ?_
  refine WL.len Try.underlying66 rfl rfl ?_
  refine WL.gtr rfl rfl rfl ?_
  refine WL.nil ?_
  refine WX.next ?_
  refine W.sub [(0, _), (10, _)] (.cons rfl (.cons rfl .nil)) ?_
  refine W.ite rfl (fun c0 => ?_) (fun c0 => ?_)
  · refine W.seq ?_
    refine W.region ?_
    refine WL.assign rfl rfl ?_
    refine WL.assign rfl rfl ?_
    refine WL.nil ?_
    refine WX.next ?_
    refine W.sub [(2, _), (3, _)] (.cons rfl (.cons rfl .nil)) ?_
    refine W.ret ?_
    refine WX.thenRet ?_
    refine WX.ret2 rfl rfl rfl ?_
    exact bad 200 _ _ M (by decide) (by unfold putTE; rw [if_pos (by omega)])
  · have hcap : l.length ≤ cap := Rd.le h
    have h32 : l.length ≤ 32 := by omega
    have M2 : Mem w0 _ (Asr.own 5 1 none 0 0 (bs []) :: _) := M.nilOwn 5 1
    replace M := M2
    refine W.skip ?_
    refine WX.next ?_
    refine W.seq ?_
    refine W.region ?_
    refine WL.assign rfl rfl ?_
    refine WL.nil ?_
    refine WX.next ?_
    refine W.sub [(0, _), (4, _)] (.cons rfl (.cons rfl .nil)) ?_
    refine W.seq ?_
    refine W.seq ?_
    refine W.region ?_
    refine WL.move rfl rfl ?_
    refine WL.len Try.underlying66 rfl rfl ?_
    refine WL.move rfl rfl ?_
    refine WL.nil ?_
    refine WX.next ?_
    refine W.sub [(0, _), (4, _), (11, _), (12, _), (13, _)] (.cons rfl (.cons rfl (.cons rfl (.cons rfl (.cons rfl .nil))))) ?_
    refine W.block ?_
    refine W.loop (ι := Nat × OX) (fun z => [(0, .slice A l.length cap), (4, .slice z.2.A z.2.l.length z.2.cap), (11, .slice A l.length cap), (12, .int .i64 (l.length : Int)), (13, .int .i64 (z.1 : Int))]) (fun zz w => Mem w0 w ((fun z => [Asr.own 5 1 z.2.A z.2.l.length z.2.cap (bs z.2.l)]) zz) ∧ (fun z => z.1 ≤ l.length ∧ (∀ j, j < z.1 → goodP l j) ∧ z.2.l = putT (l.take z.1) ∧ z.2.l.length ≤ 320 * z.1) zz) (fun z => l.length - z.1) ((0, ⟨none, 0, []⟩)) (by (repeat' (first | exact envSub.nil | refine envSub.cons ?_ ?_)) <;> first | rfl | (refine congrArg some ?_; refine congrArg (Value.int _) ?_; first | omega | (dsimp only; omega)) | (simp; done) | (refine congrArg some ?_; dsimp only; congr 1; omega) | (simp; omega)) ⟨M.sel (by first | ((repeat (first | with_reducible exact Sel.refl | with_reducible exact Sel.nil | with_reducible exact Del.here | with_reducible apply Del.there | with_reducible apply Sel.cons | with_reducible apply Sel.drop)); done) | (repeat (first | exact Sel.refl | exact Sel.nil | exact Del.here | apply Del.there | apply Sel.cons | apply Sel.drop))), ⟨Nat.zero_le _, fun j hj => absurd hj (Nat.not_lt_zero _), rfl, Nat.le_refl _⟩⟩ ?_
    clear M; rintro (⟨i, ⟨B, cB, m⟩⟩) w ⟨M, ⟨hi, hgd, hm, hml⟩⟩; dsimp only at M hi hgd hm hml ⊢
    refine W.sub [(0, _), (4, _), (11, _), (12, _), (13, _)] (.cons rfl (.cons rfl (.cons rfl (.cons rfl (.cons rfl .nil))))) ?_
    refine W.seq ?_
    refine W.region ?_
    refine WL.lss rfl rfl rfl ?_
    refine WL.nil ?_
    refine WX.next ?_
    refine W.sub [(0, _), (4, _), (11, _), (12, _), (13, _), (14, _)] (.cons rfl (.cons rfl (.cons rfl (.cons rfl (.cons rfl (.cons rfl .nil)))))) ?_
    refine W.seq ?_
    refine W.ite rfl (fun c1 => ?_) (fun c1 => ?_)
    · have hil : i < l.length := by omega
      have hsi := hs _ (el_mem hil)
      have bad2 : ∀ (w : World) (L : List Asr), Mem w0 w L → ¬ goodP l i → ∃ x' : OX, Value.tuple #[.slice none 0 0, .int .i64 200] = .tuple #[x'.v, .int .i64 (putTE l)] ∧ Mem w0 w [x'.O] ∧ x'.l = if putTE l = 0 then putT l else [] := by
        intro w L M hn
        exact bad 200 w L M (by decide) (by unfold putTE; rw [if_neg (by omega), if_pos (fun hh => hn (hh i hil))])
      refine W.skip ?_
      refine WX.next ?_
      refine W.seq ?_
      refine W.block ?_
      refine W.seq ?_
      refine W.region ?_
      refine WL.move rfl rfl ?_
      refine WL.idxA Try.underlying66 Try.sizeOf68 rfl rfl (RdL.isSome (E := pairE) (by first | with_reducible assumption | with_reducible exact RdL.mem (by with_reducible assumption) M | exact M.rdL (by first | ((repeat (first | with_reducible exact Has.here | with_reducible refine Has.there ?_)); done) | (repeat (first | exact Has.here | refine Has.there ?_))) | exact RdLH.at (by assumption) (M.sel (by first | ((repeat (first | with_reducible exact Sel.refl | with_reducible exact Sel.nil | with_reducible exact Del.here | with_reducible apply Del.there | with_reducible apply Sel.cons | with_reducible apply Sel.drop)); done) | (repeat (first | exact Sel.refl | exact Sel.nil | exact Del.here | apply Del.there | apply Sel.cons | apply Sel.drop)))) | exact RdL.nil _ _ _) (by omega)) (by omega) (by omega) (by first | exact rfl | exact (Int.toNat_of_nonneg (by omega)).symm) rfl ?_
      refine WL.loadL (E := pairE) (cs := [_, _]) Try.isAgg68 Try.sizeOf68 rfl (by first | with_reducible assumption | with_reducible exact RdL.mem (by with_reducible assumption) M | exact M.rdL (by first | ((repeat (first | with_reducible exact Has.here | with_reducible refine Has.there ?_)); done) | (repeat (first | exact Has.here | refine Has.there ?_))) | exact RdLH.at (by assumption) (M.sel (by first | ((repeat (first | with_reducible exact Sel.refl | with_reducible exact Sel.nil | with_reducible exact Del.here | with_reducible apply Del.there | with_reducible apply Sel.cons | with_reducible apply Sel.drop)); done) | (repeat (first | exact Sel.refl | exact Sel.nil | exact Del.here | apply Del.there | apply Sel.cons | apply Sel.drop)))) | exact RdL.nil _ _ _) rfl (by omega) rfl rfl ?_
      refine WL.alloc Try.zeroValue68 M rfl ?_
      intro g6_3 w M
      try simp only [Value.cells] at M
      try simp only [List.toList_toArray] at M
      refine WL.assign rfl rfl ?_
      refine WL.storeWA Try.sizeOf68 rfl rfl (by repeat (first | exact oneNil | refine oneCons rfl ?_)) rfl rfl M (by first | ((repeat (first | with_reducible exact Upd.here | with_reducible apply Upd.there)); done) | (repeat (first | exact Upd.here | apply Upd.there))) ?_
      intro w M
      refine WL.nil ?_
      refine WX.next ?_
      refine W.sub [(0, _), (4, _), (5, _), (6, _), (11, _), (12, _), (13, _)] (.cons rfl (.cons rfl (.cons rfl (.cons rfl (.cons rfl (.cons rfl (.cons rfl .nil))))))) ?_
      refine W.seq ?_
      refine W.region ?_
      refine WL.move rfl rfl ?_
      refine WL.move rfl rfl ?_
      refine WL.cutH (m' := (l.take i).length) Try.underlying66 Try.sizeOf68 rfl rfl (by omega) (by omega) (by first | (rw [sub_length (by omega) (by omega)]) | (simp only [List.length_drop] <;> omega) | (simp only [List.length_take] <;> omega) | (simp only [List.length_take, List.length_drop] <;> omega) | (simp; done) | (simp; omega)) rfl ?_
      refine WL.mkFn rfl rfl ?_
      refine WL.call Try.call47 rfl (pContainsFunc_ok (l := l.take i) ((h.mem M).pre (by omega)) _ #[.pointer (some ⟨g6_3, 0, none⟩)] (fun q => decide (q.1 = (el l i).1)) PutTexts1_call (fun x w m => PutTexts1_ok (el l i) x ((row1 (el l i) M (by first | ((repeat (first | with_reducible exact Has.here | with_reducible refine Has.there ?_)); done) | (repeat (first | exact Has.here | refine Has.there ?_)))).mem m)) (by rw [List.length_take]; omega)) rfl ?_
      rintro _ w ⟨rfl, m⟩
      replace M := M.call0 m; clear m
      refine WL.assign rfl rfl ?_
      refine WL.nil ?_
      refine WX.next ?_
      refine W.sub [(0, _), (4, _), (6, _), (7, _), (11, _), (12, _), (13, _)] (.cons rfl (.cons rfl (.cons rfl (.cons rfl (.cons rfl (.cons rfl (.cons rfl .nil))))))) ?_
      refine W.seq ?_
      refine W.seq ?_
      refine W.region ?_
      refine WL.move rfl rfl ?_
      refine WL.moveIfB rfl rfl (fun c2 => ?_) (fun c2 => ?_)
      · refine WL.off rfl rfl rfl rfl ?_
        refine WL.off rfl rfl rfl rfl ?_
        refine WL.off rfl rfl rfl rfl ?_
        refine WL.off rfl rfl rfl rfl ?_
        refine WL.pickT rfl rfl rfl ?_
        refine WL.move rfl rfl ?_
        refine WL.off rfl rfl rfl rfl ?_
        refine WL.off rfl rfl rfl rfl ?_
        refine WL.off rfl rfl rfl rfl ?_
        refine WL.off rfl rfl rfl rfl ?_
        refine WL.pickT rfl rfl rfl ?_
        refine WL.move rfl rfl ?_
        refine WL.off rfl rfl rfl rfl ?_
        refine WL.off rfl rfl rfl rfl ?_
        refine WL.off rfl rfl rfl rfl ?_
        refine WL.off rfl rfl rfl rfl ?_
        refine WL.pickT rfl rfl rfl ?_
        refine WL.nil ?_
        refine WX.next ?_
        refine W.sub [(0, _), (4, _), (6, _), (11, _), (12, _), (13, _), (41, _)] (.cons rfl (.cons rfl (.cons rfl (.cons rfl (.cons rfl (.cons rfl (.cons rfl .nil))))))) ?_
        refine W.condT rfl ?_
        refine W.seq ?_
        refine W.region ?_
        refine WL.assign rfl rfl ?_
        refine WL.assign rfl rfl ?_
        refine WL.nil ?_
        refine WX.next ?_
        refine W.sub [(2, _), (3, _)] (.cons rfl (.cons rfl .nil)) ?_
        refine W.ret ?_
        refine WX.thenRet ?_
        refine WX.blockRet ?_
        refine WX.thenRet ?_
        refine WX.thenRet ?_
        refine WX.blockRet ?_
        refine WX.thenRet ?_
        refine WX.ret2 rfl rfl rfl ?_
        refine bad2 _ _ M ?_
        first
        | exact fun hq => absurd (hq.1.symm.trans c2) (by decide)
        | exact fun hq => by have q1 := indexByte_neg.2 hq.2.2.1; omega
        | exact fun hq => by have q1 := hq.2.2.2; omega
        | exact fun hq => by rw [decide_eq_true hq.2.1] at c3; cases c3
      · refine WL.on rfl rfl ?_
        refine WL.fieldR (off := 0) Try.underlying68 rfl rfl Try.sizeOf9 rfl rfl rfl ?_
        refine WL.on rfl rfl ?_
        refine WL.loadR Try.isAgg9 rfl M (by first | ((repeat (first | with_reducible exact Has.here | with_reducible refine Has.there ?_)); done) | (repeat (first | exact Has.here | refine Has.there ?_))) rfl rfl ?_
        refine WL.on rfl rfl ?_
        refine WL.call Try.call49 rfl (key_ok (el l i).1 (by omega) _) rfl ?_
        rintro _ w ⟨rfl, m⟩
        replace M := M.call0 m; clear m
        refine WL.on rfl rfl ?_
        refine WL.not rfl rfl ?_
        refine WL.pickF rfl rfl rfl ?_
        refine WL.moveIfB rfl rfl (fun c3 => ?_) (fun c3 => ?_)
        · refine WL.off rfl rfl rfl rfl ?_
          refine WL.off rfl rfl rfl rfl ?_
          refine WL.off rfl rfl rfl rfl ?_
          refine WL.off rfl rfl rfl rfl ?_
          refine WL.pickT rfl rfl rfl ?_
          refine WL.move rfl rfl ?_
          refine WL.off rfl rfl rfl rfl ?_
          refine WL.off rfl rfl rfl rfl ?_
          refine WL.off rfl rfl rfl rfl ?_
          refine WL.off rfl rfl rfl rfl ?_
          refine WL.pickT rfl rfl rfl ?_
          refine WL.nil ?_
          refine WX.next ?_
          refine W.sub [(0, _), (4, _), (6, _), (11, _), (12, _), (13, _), (41, _)] (.cons rfl (.cons rfl (.cons rfl (.cons rfl (.cons rfl (.cons rfl (.cons rfl .nil))))))) ?_
          refine W.condT rfl ?_
          refine W.seq ?_
          refine W.region ?_
          refine WL.assign rfl rfl ?_
          refine WL.assign rfl rfl ?_
          refine WL.nil ?_
          refine WX.next ?_
          refine W.sub [(2, _), (3, _)] (.cons rfl (.cons rfl .nil)) ?_
          refine W.ret ?_
          refine WX.thenRet ?_
          refine WX.blockRet ?_
          refine WX.thenRet ?_
          refine WX.thenRet ?_
          refine WX.blockRet ?_
          refine WX.thenRet ?_
          refine WX.ret2 rfl rfl rfl ?_
          refine bad2 _ _ M ?_
          first
          | exact fun hq => absurd (hq.1.symm.trans c2) (by decide)
          | exact fun hq => by have q1 := indexByte_neg.2 hq.2.2.1; omega
          | exact fun hq => by have q1 := hq.2.2.2; omega
          | exact fun hq => by rw [decide_eq_true hq.2.1] at c3; cases c3
        · refine WL.on rfl rfl ?_
          refine WL.fieldR (off := 1) Try.underlying68 rfl rfl Try.sizeOf9 rfl rfl rfl ?_
          refine WL.on rfl rfl ?_
          refine WL.loadR Try.isAgg9 rfl M (by first | ((repeat (first | with_reducible exact Has.here | with_reducible refine Has.there ?_)); done) | (repeat (first | exact Has.here | refine Has.there ?_))) rfl rfl ?_
          refine WL.on rfl rfl ?_
          refine WL.call Try.call50 rfl (IndexByte_ok (el l i).2 0 _) rfl ?_
          rintro _ _ ⟨rfl, rfl⟩
          refine WL.on rfl rfl ?_
          refine WL.geq rfl rfl rfl ?_
          refine WL.pickF rfl rfl rfl ?_
          refine WL.moveIf rfl rfl (fun c4 => ?_) (fun c4 => ?_)
          · refine WL.off rfl rfl rfl rfl ?_
            refine WL.off rfl rfl rfl rfl ?_
            refine WL.off rfl rfl rfl rfl ?_
            refine WL.off rfl rfl rfl rfl ?_
            refine WL.pickT rfl rfl rfl ?_
            refine WL.nil ?_
            refine WX.next ?_
            refine W.sub [(0, _), (4, _), (6, _), (11, _), (12, _), (13, _), (41, _)] (.cons rfl (.cons rfl (.cons rfl (.cons rfl (.cons rfl (.cons rfl (.cons rfl .nil))))))) ?_
            refine W.condT rfl ?_
            refine W.seq ?_
            refine W.region ?_
            refine WL.assign rfl rfl ?_
            refine WL.assign rfl rfl ?_
            refine WL.nil ?_
            refine WX.next ?_
            refine W.sub [(2, _), (3, _)] (.cons rfl (.cons rfl .nil)) ?_
            refine W.ret ?_
            refine WX.thenRet ?_
            refine WX.blockRet ?_
            refine WX.thenRet ?_
            refine WX.thenRet ?_
            refine WX.blockRet ?_
            refine WX.thenRet ?_
            refine WX.ret2 rfl rfl rfl ?_
            refine bad2 _ _ M ?_
            first
            | exact fun hq => absurd (hq.1.symm.trans c2) (by decide)
            | exact fun hq => by have q1 := indexByte_neg.2 hq.2.2.1; omega
            | exact fun hq => by have q1 := hq.2.2.2; omega
            | exact fun hq => by rw [decide_eq_true hq.2.1] at c3; cases c3
          · refine WL.on rfl rfl ?_
            refine WL.fieldR (off := 1) Try.underlying68 rfl rfl Try.sizeOf9 rfl rfl rfl ?_
            refine WL.on rfl rfl ?_
            refine WL.loadR Try.isAgg9 rfl M (by first | ((repeat (first | with_reducible exact Has.here | with_reducible refine Has.there ?_)); done) | (repeat (first | exact Has.here | refine Has.there ?_))) rfl rfl ?_
            refine WL.on rfl rfl ?_
            refine WL.lenS Try.underlying9 rfl rfl ?_
            refine WL.on rfl rfl ?_
            refine WL.gtr rfl rfl rfl ?_
            refine WL.pickF rfl rfl rfl ?_
            refine WL.nil ?_
            refine WX.next ?_
            refine W.sub [(0, _), (4, _), (6, _), (11, _), (12, _), (13, _), (41, _)] (.cons rfl (.cons rfl (.cons rfl (.cons rfl (.cons rfl (.cons rfl (.cons rfl .nil))))))) ?_
            refine W.ite rfl (fun c5 => ?_) (fun c5 => ?_)
            · refine W.seq ?_
              refine W.region ?_
              refine WL.assign rfl rfl ?_
              refine WL.assign rfl rfl ?_
              refine WL.nil ?_
              refine WX.next ?_
              refine W.sub [(2, _), (3, _)] (.cons rfl (.cons rfl .nil)) ?_
              refine W.ret ?_
              refine WX.thenRet ?_
              refine WX.blockRet ?_
              refine WX.thenRet ?_
              refine WX.thenRet ?_
              refine WX.blockRet ?_
              refine WX.thenRet ?_
              refine WX.ret2 rfl rfl rfl ?_
              refine bad2 _ _ M ?_
              first
              | exact fun hq => absurd (hq.1.symm.trans c2) (by decide)
              | exact fun hq => by have q1 := indexByte_neg.2 hq.2.2.1; omega
              | exact fun hq => by have q1 := hq.2.2.2; omega
              | exact fun hq => by rw [decide_eq_true hq.2.1] at c3; cases c3
            · refine W.skip ?_
              refine WX.next ?_
              refine W.region ?_
              refine WL.move rfl rfl ?_
              refine WL.fieldR (off := 0) Try.underlying68 rfl rfl Try.sizeOf9 rfl rfl rfl ?_
              refine WL.loadR Try.isAgg9 rfl M (by first | ((repeat (first | with_reducible exact Has.here | with_reducible refine Has.there ?_)); done) | (repeat (first | exact Has.here | refine Has.there ?_))) rfl rfl ?_
              refine WL.addS (m := [61]) rfl rfl (by rw [List.length_singleton]; omega) rfl ?_
              refine WL.fieldR (off := 1) Try.underlying68 rfl rfl Try.sizeOf9 rfl rfl rfl ?_
              refine WL.loadR Try.isAgg9 rfl M (by first | ((repeat (first | with_reducible exact Has.here | with_reducible refine Has.there ?_)); done) | (repeat (first | exact Has.here | refine Has.there ?_))) rfl rfl ?_
              refine WL.addS rfl rfl (by simp; omega) rfl ?_
              refine WL.addS (m := [0]) rfl rfl (by simp; omega) rfl ?_
              refine WL.appendS (s := txt (el l i)) Try.elem5 Try.underlying9 rfl rfl M (by first | ((repeat (first | with_reducible exact Del.here | with_reducible apply Del.there)); done) | (repeat (first | exact Del.here | apply Del.there))) rfl (by unfold txt; simp; omega) rfl ?_
              intro A10 cap10 w M
              refine WL.assign rfl rfl ?_
              refine WL.nil ?_
              refine WX.blockNormal ?_
              refine WX.next ?_
              refine W.sub [(0, _), (4, _), (11, _), (12, _), (13, _)] (.cons rfl (.cons rfl (.cons rfl (.cons rfl (.cons rfl .nil))))) ?_
              refine W.region ?_
              refine WL.add rfl rfl (by first | exact wI64 (by omega) | rfl) rfl ?_
              refine WL.move rfl rfl ?_
              refine WL.nil ?_
              skip
              have q0 : goodP l i := ⟨by simpa using c2, by simpa using c3, indexByte_neg.1 (by omega), by omega⟩
              have q1 : ∀ j, j < i + 1 → goodP l j := by
                intro j hj
                rcases Nat.lt_or_ge j i with h | h
                · exact hgd j h
                · obtain rfl : j = i := by omega
                  exact q0
              have q2 : m ++ txt (el l i) = putT (l.take (i + 1)) := by
                rw [take_snocP hil, hm]
                unfold putT
                simp
              have q3 : (m ++ txt (el l i)).length ≤ 320 * (i + 1) := by
                have := txt_length q0.2
                rw [List.length_append]
                omega
              refine WX.round ((i + 1, ⟨A10, cap10, m ++ txt (el l i)⟩)) (by (repeat' (first | exact envSub.nil | refine envSub.cons ?_ ?_)) <;> first | rfl | (refine congrArg some ?_; refine congrArg (Value.int _) ?_; first | omega | (dsimp only; omega)) | (simp; done) | (refine congrArg some ?_; dsimp only; congr 1; omega) | (simp; omega)) ⟨M.sel (by first | ((repeat (first | with_reducible exact Sel.refl | with_reducible exact Sel.nil | with_reducible exact Del.here | with_reducible apply Del.there | with_reducible apply Sel.cons | with_reducible apply Sel.drop)); done) | (repeat (first | exact Sel.refl | exact Sel.nil | exact Del.here | apply Del.there | apply Sel.cons | apply Sel.drop))), ⟨by dsimp only; omega, q1, q2, q3⟩⟩ (by first | omega | (dsimp only; omega))
    · refine W.exit ?_
      refine WX.thenExit ?_
      refine WX.thenExit ?_
      refine WX.blockHere ?_
      refine WX.next ?_
      refine W.seq ?_
      refine W.seq ?_
      obtain rfl : i = l.length := by omega
      rw [List.take_length] at hm
      refine W.region ?_
      refine WL.move rfl rfl ?_
      refine WL.len Try.underlying25 rfl rfl ?_
      refine WL.gtr rfl rfl rfl ?_
      refine WL.nil ?_
      refine WX.next ?_
      refine W.sub [(4, _), (54, _)] (.cons rfl (.cons rfl .nil)) ?_
      refine W.ite rfl (fun c6 => ?_) (fun c6 => ?_)
      · refine W.seq ?_
        refine W.region ?_
        refine WL.assign rfl rfl ?_
        refine WL.assign rfl rfl ?_
        refine WL.nil ?_
        refine WX.next ?_
        refine W.sub [(2, _), (3, _)] (.cons rfl (.cons rfl .nil)) ?_
        refine W.ret ?_
        refine WX.thenRet ?_
        refine WX.ret2 rfl rfl rfl ?_
        exact bad 3 _ _ M (by decide) (by unfold putTE; rw [if_neg (by omega), if_neg (fun hh => hh hgd), if_pos (by rw [← hm]; omega)])
      · refine W.skip ?_
        refine WX.next ?_
        refine W.seq ?_
        refine W.region ?_
        refine WL.move rfl rfl ?_
        refine WL.assign rfl rfl ?_
        refine WL.assign rfl rfl ?_
        refine WL.nil ?_
        refine WX.next ?_
        refine W.sub [(2, _), (3, _)] (.cons rfl (.cons rfl .nil)) ?_
        refine W.ret ?_
        refine WX.ret2 rfl rfl rfl ?_
        have h0 : putTE l = 0 := by unfold putTE; rw [if_neg (by omega), if_neg (fun hh => hh hgd), if_neg (by rw [← hm]; omega)]
        exact ⟨⟨B, cB, m⟩, by rw [h0]; rfl, M.sel (by first | ((repeat (first | with_reducible exact Sel.refl | with_reducible exact Sel.nil | with_reducible exact Del.here | with_reducible apply Del.there | with_reducible apply Sel.cons | with_reducible apply Sel.drop)); done) | (repeat (first | exact Sel.refl | exact Sel.nil | exact Del.here | apply Del.there | apply Sel.cons | apply Sel.drop))), by rw [h0, if_pos rfl]; exact hm⟩
end Go.Proofs.Ytinbcidgdbmcjaa
