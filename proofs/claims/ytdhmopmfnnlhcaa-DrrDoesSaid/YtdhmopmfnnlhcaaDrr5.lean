/-
  Walks: New (drr); are two jobs the same; a job that may be; a scheduler of some shares.
-/
import Derived.Laws.StructEq
import Derived.Test.YtdhmopmfnnlhcaaDrr4
namespace Go.Proofs.Ytdhmopmfnnlhcaa
open Go Go.RowKit

theorem eqJobs (w : World) (a b : JX) : (Op.equalIn 10000 31 a.v b.v).run Try.prog w = .ok (decide (a = b)) w := by
  have h1 : Try.prog.underlying 31 = some (.struct (Try.prog.fieldsOf 31)) := by kernel_rfl
  have h2 : Try.prog.stoodInHeld 31 = false := by kernel_rfl
  unfold JX.v
  rw [show (10000 : Nat) = 9999 + 1 from rfl, run_equalIn_agg w 9999 _ _ _ h1 h2]
  obtain ⟨af, ac, ai⟩ := a
  obtain ⟨bf, bc, bi⟩ := b
  unfold Program.fieldsOf
  rw [Try.underlying31]
  have q1 : ∀ (w : World) (a b : Int), (Op.equalIn 9999 3 (.int .i64 a) (.int .i64 b)).run Try.prog w = .ok (a == b) w := fun w a b => run_equalIn_int w 9998 _ _ _ _ _ Try.underlying3
  have q2 : ∀ (w : World) (a b : Int), (Op.equalIn 9999 29 (.int .u64 a) (.int .u64 b)).run Try.prog w = .ok (a == b) w := fun w a b => run_equalIn_int w 9998 _ _ _ _ _ Try.underlying29
  have z1 : ∀ w, (isAgg 3).run Try.prog w = .ok false w := Try.isAgg3
  have z2 : ∀ w, (isAgg 29).run Try.prog w = .ok false w := Try.isAgg29
  simp [Op.eqFields, part, q1, q2, z1, z2]
  by_cases e1 : af = bf
  · by_cases e2 : ac = bc
    · by_cases e3 : ai = bi
      · simp [e1, e2, e3]
      · simp [e1, e2, e3]
        omega
    · simp [e1, e2]
  · simp [e1]
/-- Are two jobs the same? -/
theorem WL.eqlJ {n : Nat} {ρ : List (Nat × Value)} {w : World} {rest : List Oper} {X : SqV Try.prog n} {d : Nat} {ty : TypeId} {pos : String} {aft : Array Edge} {x y : Operand} {t' : TypeId} (a b : JX)
    (hx : ev ρ x = some a.v) (hy : ev ρ y = some b.v) (hd : Nat.blt d n = true) (kk : X.S rest ((d, .bool (decide (a = b))) :: ρ) w) : X.S (⟨some d, .binOp .eql 31 x y t', ty, pos, aft, none⟩ :: rest) ρ w := by
  refine WL.val rfl rfl hd (fun f hf => ?_) kk
  have hg := run_eqGuard_agg (P := Try.prog) w .eql 31 x y #[.int .i64 a.flow, .int .i64 a.cost, .int .u64 (a.id : Int)] #[.int .i64 b.flow, .int .i64 b.cost, .int .u64 (b.id : Int)] (by kernel_rfl)
  have he := eqJobs w a b
  have hb := run_eql_struct (P := Try.prog) w 31 #[.int .i64 a.flow, .int .i64 a.cost, .int .u64 (a.id : Int)] #[.int .i64 b.flow, .int .i64 b.cost, .int .u64 (b.id : Int)]
  unfold JX.v at he hx hy
  rw [he] at hb
  simp [execOp, hf.eval hx, hf.eval hy, hg, hb]
theorem WL.neqJ {n : Nat} {ρ : List (Nat × Value)} {w : World} {rest : List Oper} {X : SqV Try.prog n} {d : Nat} {ty : TypeId} {pos : String} {aft : Array Edge} {x y : Operand} {t' : TypeId} (a b : JX)
    (hx : ev ρ x = some a.v) (hy : ev ρ y = some b.v) (hd : Nat.blt d n = true) (kk : X.S rest ((d, .bool (decide (a ≠ b))) :: ρ) w) : X.S (⟨some d, .binOp .neq 31 x y t', ty, pos, aft, none⟩ :: rest) ρ w := by
  refine WL.val rfl rfl hd (fun f hf => ?_) kk
  have hg := run_eqGuard_agg (P := Try.prog) w .neq 31 x y #[.int .i64 a.flow, .int .i64 a.cost, .int .u64 (a.id : Int)] #[.int .i64 b.flow, .int .i64 b.cost, .int .u64 (b.id : Int)] (by kernel_rfl)
  have he := eqJobs w a b
  have hb := run_neq_struct (P := Try.prog) w 31 #[.int .i64 a.flow, .int .i64 a.cost, .int .u64 (a.id : Int)] #[.int .i64 b.flow, .int .i64 b.cost, .int .u64 (b.id : Int)]
  unfold JX.v at he hx hy
  rw [he] at hb
  simp [execOp, hf.eval hx, hf.eval hy, hg, hb]

theorem sIndexFunc_ok {A : Option Addr} {cap : Nat} {l : List Int} {w0 : World} (h : RdL w0 intE A cap l) (f : FuncId) (cs : Array Value) (p : Int → Bool) (hcall : ∀ (args : Array Value) (w : World), (callFunc f args).run Try.prog w = .ok (.enter f args) w)
    (hp : ∀ x w, Fn Try.prog f ([.int .i64 x] ++ cs.toList) w fun v w' => v = .bool (p x) ∧ w' = w) (hl : l.length ≤ 1000000) :
    Fn Try.prog 36 [.slice A l.length cap, .func (.func f) #[] cs] w0 fun v w' => (∃ z : Int, v = .int .i64 z ∧ (decide (0 ≤ z) = l.any p)) ∧ Mem w0 w' [] := by
  have M := Mem.refl w0
  obtain ⟨w, hw⟩ : ∃ w, w = w0 := ⟨w0, rfl⟩
  refine Fn.enter Try.func36 rfl Try.ntmps36 rfl ?_
  refine W.sub [(0, _), (1, _)] (.cons rfl (.cons rfl .nil)) ?_
  refine W.seq ?_
  refine W.region ?_
  refine WL.assign rfl rfl ?_
  refine WL.nil ?_
  refine WX.next ?_
  refine W.sub [(0, _), (1, _)] (.cons rfl (.cons rfl .nil)) ?_
  refine W.seq ?_
  refine W.seq ?_
  refine W.region ?_
  refine WL.move rfl rfl ?_
  refine WL.len Try.underlying22 rfl rfl ?_
  refine WL.move rfl rfl ?_
  refine WL.nil ?_
  refine WX.next ?_
  refine W.sub [(0, _), (1, _), (7, _), (8, _)] (.cons rfl (.cons rfl (.cons rfl (.cons rfl .nil)))) ?_
  refine W.block ?_
  refine W.loop (ι := Nat) (fun i => [(0, .slice A l.length cap), (1, .func (.func f) #[] cs), (7, .int .i64 (l.length : Int)), (8, .int .i64 (i : Int))]) (fun zz w => Mem w0 w ((fun _ => []) zz) ∧ (fun i => i ≤ l.length ∧ ∀ j, j < i → p (el l j) = false) zz) (fun i => l.length - i) (0) (by (repeat' (first | exact envSub.nil | refine envSub.cons ?_ ?_)) <;> first | rfl | (refine congrArg some ?_; refine congrArg (Value.int _) ?_; first | omega | (dsimp only; omega)) | (simp; done) | (refine congrArg some ?_; dsimp only; congr 1; omega) | (simp; omega)) ⟨M.sel (by first | ((repeat (first | with_reducible exact Sel.refl | with_reducible exact Sel.nil | with_reducible exact Del.here | with_reducible apply Del.there | with_reducible apply Sel.cons | with_reducible apply Sel.drop)); done) | (repeat (first | exact Sel.refl | exact Sel.nil | exact Del.here | apply Del.there | apply Sel.cons | apply Sel.drop))), ⟨by omega, fun j hj => absurd hj (by omega)⟩⟩ ?_
  clear M; rintro (i) w ⟨M, ⟨hi, hs⟩⟩; dsimp only at M hi hs ⊢
  refine W.sub [(0, _), (1, _), (7, _), (8, _)] (.cons rfl (.cons rfl (.cons rfl (.cons rfl .nil)))) ?_
  refine W.seq ?_
  refine W.region ?_
  refine WL.lss rfl rfl rfl ?_
  refine WL.nil ?_
  refine WX.next ?_
  refine W.sub [(0, _), (1, _), (7, _), (8, _), (9, _)] (.cons rfl (.cons rfl (.cons rfl (.cons rfl (.cons rfl .nil))))) ?_
  refine W.seq ?_
  refine W.ite rfl (fun c0 => ?_) (fun c0 => ?_)
  · refine W.skip ?_
    refine WX.next ?_
    refine W.seq ?_
    refine W.block ?_
    refine W.seq ?_
    refine W.region ?_
    refine WL.move rfl rfl ?_
    refine WL.assign rfl rfl ?_
    refine WL.nil ?_
    refine WX.next ?_
    refine W.sub [(0, _), (1, _), (5, _), (7, _), (8, _)] (.cons rfl (.cons rfl (.cons rfl (.cons rfl (.cons rfl .nil))))) ?_
    refine W.seq ?_
    refine W.region ?_
    refine WL.move rfl rfl ?_
    refine WL.move rfl rfl ?_
    refine WL.move rfl rfl ?_
    refine WL.idxA Try.underlying22 Try.sizeOf3 rfl rfl (RdL.isSome (E := intE) (by first | with_reducible assumption | with_reducible exact RdL.mem (by with_reducible assumption) M | exact M.rdL (by first | ((repeat (first | with_reducible exact Has.here | with_reducible refine Has.there ?_)); done) | (repeat (first | exact Has.here | refine Has.there ?_))) | exact RdLH.at (by assumption) (M.sel (by first | ((repeat (first | with_reducible exact Sel.refl | with_reducible exact Sel.nil | with_reducible exact Del.here | with_reducible apply Del.there | with_reducible apply Sel.cons | with_reducible apply Sel.drop)); done) | (repeat (first | exact Sel.refl | exact Sel.nil | exact Del.here | apply Del.there | apply Sel.cons | apply Sel.drop)))) | exact RdL.nil _ _ _) (by omega)) (by omega) (by omega) (by first | exact rfl | exact (Int.toNat_of_nonneg (by omega)).symm) rfl ?_
    refine WL.loadE0 (E := intE) Try.isAgg3 rfl (by first | with_reducible assumption | with_reducible exact RdL.mem (by with_reducible assumption) M | exact M.rdL (by first | ((repeat (first | with_reducible exact Has.here | with_reducible refine Has.there ?_)); done) | (repeat (first | exact Has.here | refine Has.there ?_))) | exact RdLH.at (by assumption) (M.sel (by first | ((repeat (first | with_reducible exact Sel.refl | with_reducible exact Sel.nil | with_reducible exact Del.here | with_reducible apply Del.there | with_reducible apply Sel.cons | with_reducible apply Sel.drop)); done) | (repeat (first | exact Sel.refl | exact Sel.nil | exact Del.here | apply Del.there | apply Sel.cons | apply Sel.drop)))) | exact RdL.nil _ _ _) (by omega) rfl rfl ?_
    refine WL.callV hcall rfl rfl (hp (el l i) _) rfl ?_
    rintro _ _ ⟨rfl, rfl⟩
    refine WL.nil ?_
    refine WX.next ?_
    refine W.sub [(0, _), (1, _), (5, _), (7, _), (8, _), (16, _)] (.cons rfl (.cons rfl (.cons rfl (.cons rfl (.cons rfl (.cons rfl .nil)))))) ?_
    refine W.cond rfl (fun c1 => ?_) (fun c1 => ?_)
    · (try simp only [Bool.not_eq_true'] at c1); (try simp only [Bool.not_eq_false'] at c1); (try simp only [decide_eq_true_eq] at c1); (try simp only [decide_eq_false_iff_not] at c1)
      refine W.seq ?_
      refine W.region ?_
      refine WL.move rfl rfl ?_
      refine WL.assign rfl rfl ?_
      refine WL.nil ?_
      refine WX.next ?_
      refine W.sub [(4, _)] (.cons rfl .nil) ?_
      refine W.ret ?_
      refine WX.blockRet ?_
      refine WX.thenRet ?_
      refine WX.thenRet ?_
      refine WX.blockRet ?_
      refine WX.thenRet ?_
      refine WX.ret1 rfl rfl ?_
      exact ⟨⟨_, rfl, by rw [decide_eq_true (by omega)]; exact (List.any_eq_true.2 ⟨_, el_mem (by omega), c1⟩).symm⟩, M⟩
    · (try simp only [Bool.not_eq_true'] at c1); (try simp only [Bool.not_eq_false'] at c1); (try simp only [decide_eq_true_eq] at c1); (try simp only [decide_eq_false_iff_not] at c1)
      refine W.skip ?_
      refine WX.blockNormal ?_
      refine WX.next ?_
      refine W.region ?_
      refine WL.add rfl rfl (by first | exact wI64 (by omega) | rfl) rfl ?_
      refine WL.move rfl rfl ?_
      refine WL.nil ?_
      skip
      have q : ∀ j, j < i + 1 → p (el l j) = false := by
        intro j hj
        rcases Nat.lt_or_ge j i with h1 | h1
        · exact hs j h1
        · obtain rfl : j = i := by omega
          simpa using c1
      refine WX.round (i + 1) (by (repeat' (first | exact envSub.nil | refine envSub.cons ?_ ?_)) <;> first | rfl | (refine congrArg some ?_; refine congrArg (Value.int _) ?_; first | omega | (dsimp only; omega)) | (simp; done) | (refine congrArg some ?_; dsimp only; congr 1; omega) | (simp; omega)) ⟨M.sel (by first | ((repeat (first | with_reducible exact Sel.refl | with_reducible exact Sel.nil | with_reducible exact Del.here | with_reducible apply Del.there | with_reducible apply Sel.cons | with_reducible apply Sel.drop)); done) | (repeat (first | exact Sel.refl | exact Sel.nil | exact Del.here | apply Del.there | apply Sel.cons | apply Sel.drop))), ⟨by omega, q⟩⟩ (by first | omega | (dsimp only; omega))
  · refine W.exit ?_
    refine WX.thenExit ?_
    refine WX.thenExit ?_
    refine WX.blockHere ?_
    refine WX.next ?_
    refine W.seq ?_
    refine W.region ?_
    refine WL.assign rfl rfl ?_
    refine WL.nil ?_
    refine WX.next ?_
    refine W.sub [(4, _)] (.cons rfl .nil) ?_
    refine W.ret ?_
    refine WX.ret1 rfl rfl ?_
    obtain rfl : i = l.length := by omega
    exact ⟨⟨_, rfl, by
      rw [decide_eq_false (by omega)]
      symm
      rw [List.any_eq_false]
      intro x hx
      obtain ⟨j, hj, rfl⟩ := List.getElem_of_mem hx
      have := hs j hj
      simpa [el, hj] using this⟩, M⟩
theorem sContainsFunc_ok {A : Option Addr} {cap : Nat} {l : List Int} {w0 : World} (h : RdL w0 intE A cap l) (f : FuncId) (cs : Array Value) (p : Int → Bool) (hcall : ∀ (args : Array Value) (w : World), (callFunc f args).run Try.prog w = .ok (.enter f args) w)
    (hp : ∀ x w, Fn Try.prog f ([.int .i64 x] ++ cs.toList) w fun v w' => v = .bool (p x) ∧ w' = w) (hl : l.length ≤ 1000000) :
    Fn Try.prog 30 [.slice A l.length cap, .func (.func f) #[] cs] w0 fun v w' => v = .bool (l.any p) ∧ Mem w0 w' [] := by
  have M := Mem.refl w0
  obtain ⟨w, hw⟩ : ∃ w, w = w0 := ⟨w0, rfl⟩
  refine Fn.enter Try.func30 rfl Try.ntmps30 rfl ?_
  refine W.sub [(0, _), (1, _)] (.cons rfl (.cons rfl .nil)) ?_
  refine W.seq ?_
  refine W.region ?_
  refine WL.assign rfl rfl ?_
  refine WL.nil ?_
  refine WX.next ?_
  refine W.sub [(0, _), (1, _)] (.cons rfl (.cons rfl .nil)) ?_
  refine W.seq ?_
  refine W.region ?_
  refine WL.move rfl rfl ?_
  refine WL.move rfl rfl ?_
  refine WL.call Try.call36 rfl (sIndexFunc_ok (h.mem M) f cs p hcall hp hl) rfl ?_
  rintro _ w ⟨⟨z, rfl, hz⟩, m⟩
  replace M := M.call0 m; clear m
  refine WL.geq rfl rfl rfl ?_
  refine WL.assign rfl rfl ?_
  refine WL.nil ?_
  refine WX.next ?_
  refine W.sub [(4, _)] (.cons rfl .nil) ?_
  refine W.ret ?_
  refine WX.ret1 rfl rfl ?_
  exact ⟨congrArg Value.bool hz, M⟩
def wrongB (z : Int) : Bool := decide (z < 1 ∨ 100000 < z)
theorem New1_ok (z : Int) (w : World) : Fn Try.prog 31 [.int .i64 z] w fun v w' => v = .bool (wrongB z) ∧ w' = w := by
  have M := Mem.refl w
  refine Fn.enter Try.func31 rfl Try.ntmps31 rfl ?_
  refine W.sub [(0, _)] (.cons rfl .nil) ?_
  refine W.seq ?_
  refine W.region ?_
  refine WL.assign rfl rfl ?_
  refine WL.nil ?_
  refine WX.next ?_
  refine W.sub [(0, _)] (.cons rfl .nil) ?_
  refine W.seq ?_
  refine W.region ?_
  refine WL.move rfl rfl ?_
  refine WL.lss rfl rfl rfl ?_
  refine WL.moveIf rfl rfl (fun c0 => ?_) (fun c0 => ?_)
  · refine WL.off rfl rfl rfl rfl ?_
    refine WL.off rfl rfl rfl rfl ?_
    refine WL.pickT rfl rfl rfl ?_
    refine WL.assign rfl rfl ?_
    refine WL.nil ?_
    refine WX.next ?_
    refine W.sub [(2, _)] (.cons rfl .nil) ?_
    refine W.ret ?_
    refine WX.ret1 rfl rfl ?_
    exact ⟨by first | (unfold wrongB; rw [decide_eq_true (by omega)]; done) | (unfold wrongB; congr 1; rw [decide_eq_decide]; omega), rfl⟩
  · refine WL.on rfl rfl ?_
    refine WL.move rfl rfl ?_
    refine WL.on rfl rfl ?_
    refine WL.gtr rfl rfl rfl ?_
    refine WL.pickF rfl rfl rfl ?_
    refine WL.assign rfl rfl ?_
    refine WL.nil ?_
    refine WX.next ?_
    refine W.sub [(2, _)] (.cons rfl .nil) ?_
    refine W.ret ?_
    refine WX.ret1 rfl rfl ?_
    exact ⟨by first | (unfold wrongB; rw [decide_eq_true (by omega)]; done) | (unfold wrongB; congr 1; rw [decide_eq_decide]; omega), rfl⟩
theorem New1_call : ∀ (args : Array Value) (w : World), (callFunc 31 args).run Try.prog w = .ok (.enter 31 args) w := Try.call31
/-- What makes no scheduler. -/
def badL (l : List Int) : Prop := l.any wrongB = true ∨ l.length < 1 ∨ 32 < l.length
def newS (l : List Int) : Sd := ⟨l.map fun z => ⟨z, 0, []⟩, [], false⟩
theorem newS_ok {l : List Int} (h : ¬ badL l) : Ok (newS l) ∧ nJ (newS l).fl = 0 := by
  have h1 : l.any wrongB = false := by
    cases hb : l.any wrongB
    · rfl
    · exact absurd (.inl hb) h
  have h2 : 1 ≤ l.length ∧ l.length ≤ 32 := by
    unfold badL at h
    omega
  have hsh : ∀ z ∈ l, 1 ≤ z ∧ z ≤ 100000 := by
    intro z hz
    have := (List.any_eq_false.1 h1) z hz
    unfold wrongB at this
    simp at this
    omega
  have hn : nJ (newS l).fl = 0 := sum_zero _ fun x hx => by
    unfold newS at hx
    simp at hx
    exact hx.2.symm ▸ rfl
  have hel : ∀ k, k < l.length → el (newS l).fl k = ⟨el l k, 0, []⟩ := by
    intro k hk
    unfold newS
    simp [el, hk]
  have hlen : (newS l).fl.length = l.length := by unfold newS; simp
  refine ⟨⟨by rw [hlen]; exact h2, ?_, List.nodup_nil, ?_, ?_, ?_, ?_, ?_, (fun h => by cases h), by omega⟩, hn⟩
  · intro f hf
    obtain ⟨z, hz, rfl⟩ := List.mem_map.1 hf
    exact hsh z hz
  · intro k
    rw [hlen]
    constructor
    · intro hm; cases hm
    · rintro ⟨hk, hj⟩
      rw [hel k hk] at hj
      exact absurd rfl hj
  · intro k hk j hj
    rw [hlen] at hk
    rw [hel k hk] at hj
    cases hj
  · intro f hf
    obtain ⟨z, hz, rfl⟩ := List.mem_map.1 hf
    exact ⟨Int.le_refl _, by dsimp only; omega⟩
  · intro f hf _
    obtain ⟨z, hz, rfl⟩ := List.mem_map.1 hf
    rfl
  · intro k hk hj _
    rw [hlen] at hk
    rw [hel k hk] at hj
    exact absurd rfl hj
theorem Mem.starNone {w0 w : World} {L : List Asr} (M : Mem w0 w L) : ∀ (fw : List FwX), (∀ f ∈ fw, f.A = none ∧ f.cap = 0 ∧ f.jobs = []) → Mem w0 w (Asr.star (fw.map FwX.O) :: L)
  | [], _ => M.starNil
  | f :: fw, h => by
    obtain ⟨h1, h2, h3⟩ := h f (by simp)
    have M1 := M.starNone fw fun x hx => h x (by simp [hx])
    refine Mem.starCons ?_
    unfold FwX.O
    rw [h1, h2, h3]
    exact M1.nilOwn 31 3

set_option maxRecDepth 10000 in
set_option maxHeartbeats 1000000 in
theorem New_ok {A : Option Addr} {cap : Nat} {l : List Int} {w0 : World} (h : RdL w0 intE A cap l) (hl : l.length ≤ 1000000) :
    Fn Try.prog 17 [.slice A l.length cap] w0 fun v w' => (badL l ∧ v = .tuple #[.pointer none, .int .i64 2] ∧ Mem w0 w' []) ∨
      (¬ badL l ∧ ∃ x : SdX, v = .tuple #[.pointer (some ⟨x.g, 0, none⟩), .int .i64 0] ∧ x.s = newS l ∧ x.ok ∧ Mem w0 w' x.L) := by
  have M := Mem.refl w0
  obtain ⟨w, hw⟩ : ∃ w, w = w0 := ⟨w0, rfl⟩
  refine Fn.enter Try.func17 rfl Try.ntmps17 rfl ?_
  refine W.sub [(0, _)] (.cons rfl .nil) ?_
  refine W.seq ?_
  refine W.region ?_
  refine WL.assign rfl rfl ?_
  refine WL.assign rfl rfl ?_
  refine WL.nil ?_
  refine WX.next ?_
  refine W.sub [(0, _)] (.cons rfl .nil) ?_
  refine W.seq ?_
  refine W.region ?_
  refine WL.move rfl rfl ?_
  refine WL.call Try.call30 rfl (sContainsFunc_ok (h.mem M) _ #[] wrongB New1_call (fun x w => New1_ok x w) hl) rfl ?_
  rintro _ w ⟨rfl, m⟩
  replace M := M.call0 m; clear m
  refine WL.assign rfl rfl ?_
  refine WL.nil ?_
  refine WX.next ?_
  refine W.sub [(0, _), (4, _)] (.cons rfl (.cons rfl .nil)) ?_
  refine W.seq ?_
  refine W.seq ?_
  refine W.region ?_
  refine WL.move rfl rfl ?_
  refine WL.moveIfB rfl rfl (fun c0 => ?_) (fun c0 => ?_)
  · refine WL.off rfl rfl rfl rfl ?_
    refine WL.off rfl rfl rfl rfl ?_
    refine WL.off rfl rfl rfl rfl ?_
    refine WL.pickT rfl rfl rfl ?_
    refine WL.move rfl rfl ?_
    refine WL.off rfl rfl rfl rfl ?_
    refine WL.off rfl rfl rfl rfl ?_
    refine WL.off rfl rfl rfl rfl ?_
    refine WL.pickT rfl rfl rfl ?_
    refine WL.nil ?_
    refine WX.next ?_
    refine W.sub [(0, _), (20, _)] (.cons rfl (.cons rfl .nil)) ?_
    refine W.condT rfl ?_
    refine W.seq ?_
    refine W.region ?_
    refine WL.assign rfl rfl ?_
    refine WL.assign rfl rfl ?_
    refine WL.nil ?_
    refine WX.next ?_
    refine W.sub [(2, _), (3, _)] (.cons rfl (.cons rfl .nil)) ?_
    refine W.ret ?_
    refine WX.thenRet ?_
    refine WX.ret2 rfl rfl rfl ?_
    exact .inl ⟨by unfold badL; first | exact .inl c0 | omega, rfl, M⟩
  · refine WL.on rfl rfl ?_
    refine WL.move rfl rfl ?_
    refine WL.on rfl rfl ?_
    refine WL.len Try.underlying22 rfl rfl ?_
    refine WL.on rfl rfl ?_
    refine WL.lss rfl rfl rfl ?_
    refine WL.pickF rfl rfl rfl ?_
    refine WL.moveIf rfl rfl (fun c1 => ?_) (fun c1 => ?_)
    · refine WL.off rfl rfl rfl rfl ?_
      refine WL.off rfl rfl rfl rfl ?_
      refine WL.off rfl rfl rfl rfl ?_
      refine WL.pickT rfl rfl rfl ?_
      refine WL.nil ?_
      refine WX.next ?_
      refine W.sub [(0, _), (20, _)] (.cons rfl (.cons rfl .nil)) ?_
      refine W.condT rfl ?_
      refine W.seq ?_
      refine W.region ?_
      refine WL.assign rfl rfl ?_
      refine WL.assign rfl rfl ?_
      refine WL.nil ?_
      refine WX.next ?_
      refine W.sub [(2, _), (3, _)] (.cons rfl (.cons rfl .nil)) ?_
      refine W.ret ?_
      refine WX.thenRet ?_
      refine WX.ret2 rfl rfl rfl ?_
      exact .inl ⟨by unfold badL; first | exact .inl c0 | omega, rfl, M⟩
    · refine WL.on rfl rfl ?_
      refine WL.move rfl rfl ?_
      refine WL.on rfl rfl ?_
      refine WL.len Try.underlying22 rfl rfl ?_
      refine WL.on rfl rfl ?_
      refine WL.gtr rfl rfl rfl ?_
      refine WL.pickF rfl rfl rfl ?_
      refine WL.nil ?_
      refine WX.next ?_
      refine W.sub [(0, _), (20, _)] (.cons rfl (.cons rfl .nil)) ?_
      refine W.ite rfl (fun c2 => ?_) (fun c2 => ?_)
      · refine W.seq ?_
        refine W.region ?_
        refine WL.assign rfl rfl ?_
        refine WL.assign rfl rfl ?_
        refine WL.nil ?_
        refine WX.next ?_
        refine W.sub [(2, _), (3, _)] (.cons rfl (.cons rfl .nil)) ?_
        refine W.ret ?_
        refine WX.thenRet ?_
        refine WX.ret2 rfl rfl rfl ?_
        exact .inl ⟨by unfold badL; first | exact .inl c0 | omega, rfl, M⟩
      · have hb : ¬ badL l := by
          unfold badL
          rintro (h | h)
          · rw [h] at c0; simp at c0
          · omega
        refine W.skip ?_
        refine WX.next ?_
        refine W.seq ?_
        refine W.region ?_
        refine WL.move rfl rfl ?_
        refine WL.len Try.underlying22 rfl rfl ?_
        refine WL.makeL (E := flowE) (z0 := ⟨0, 0, none, 0, []⟩) Try.elem62 Try.zeroValue62 rfl M rfl rfl (by omega) (by omega) (by simp only [maxLen]; omega) rfl ?_
        intro g4_2 w M
        simp only [Int.toNat_natCast] at M ⊢
        refine WL.buildP (places := #[(0, 1), (1, 1), (2, 1), (3, 1)]) Try.underlying59 Try.zeroValue59 (fun _ => by simp [Try.sizeOf57, Try.sizeOf22, Try.sizeOf4, Try.sizeOf3]) rfl (by repeat (first | exact Puts.nil | exact SetAt.zero | apply SetAt.succ | apply Puts.cons rfl rfl)) rfl ?_
        refine WL.box rfl M rfl ?_
        intro g4_4 w M
        try simp only [Value.cells] at M
        try simp only [List.toList_toArray] at M
        refine WL.assign rfl rfl ?_
        refine WL.nil ?_
        refine WX.next ?_
        refine W.sub [(0, _), (5, _)] (.cons rfl (.cons rfl .nil)) ?_
        refine W.seq ?_
        refine W.seq ?_
        refine W.region ?_
        refine WL.move rfl rfl ?_
        refine WL.len Try.underlying22 rfl rfl ?_
        refine WL.move rfl rfl ?_
        refine WL.nil ?_
        refine WX.next ?_
        refine W.sub [(5, _), (26, _), (27, _), (28, _)] (.cons rfl (.cons rfl (.cons rfl (.cons rfl .nil)))) ?_
        refine W.block ?_
        refine W.loop (ι := Nat × List FwX) (fun z => [(5, .pointer (some ⟨g4_4, 0, none⟩)), (26, .slice A l.length cap), (27, .int .i64 (l.length : Int)), (28, .int .i64 (z.1 : Int))]) (fun zz w => Mem w0 w ((fun z => [Asr.row g4_4 59 [.slice (some ⟨g4_2, 0, none⟩) l.length l.length, .slice none 0 0, .bool false, .int .i64 0], Asr.lst flowE (some ⟨g4_2, 0, none⟩) l.length z.2]) zz) ∧ (fun z => z.1 ≤ l.length ∧ z.2.length = l.length ∧ ∀ j, j < l.length → el z.2 j = if j < z.1 then ⟨el l j, 0, none, 0, []⟩ else ⟨0, 0, none, 0, []⟩) zz) (fun z => l.length - z.1) ((0, List.replicate l.length ⟨0, 0, none, 0, []⟩)) (by (repeat' (first | exact envSub.nil | refine envSub.cons ?_ ?_)) <;> first | rfl | (refine congrArg some ?_; refine congrArg (Value.int _) ?_; first | omega | (dsimp only; omega)) | (simp; done) | (refine congrArg some ?_; dsimp only; congr 1; omega) | (simp; omega)) ⟨M.sel (by first | ((repeat (first | with_reducible exact Sel.refl | with_reducible exact Sel.nil | with_reducible exact Del.here | with_reducible apply Del.there | with_reducible apply Sel.cons | with_reducible apply Sel.drop)); done) | (repeat (first | exact Sel.refl | exact Sel.nil | exact Del.here | apply Del.there | apply Sel.cons | apply Sel.drop))), ⟨by simp, by simp, fun j hj => by simp [el, hj]⟩⟩ ?_
        clear M; rintro (⟨i, fw⟩) w ⟨M, ⟨hi, hfl, hel⟩⟩; dsimp only at M hi hfl hel ⊢
        refine W.sub [(5, _), (26, _), (27, _), (28, _)] (.cons rfl (.cons rfl (.cons rfl (.cons rfl .nil)))) ?_
        refine W.seq ?_
        refine W.region ?_
        refine WL.lss rfl rfl rfl ?_
        refine WL.nil ?_
        refine WX.next ?_
        refine W.sub [(5, _), (26, _), (27, _), (28, _), (29, _)] (.cons rfl (.cons rfl (.cons rfl (.cons rfl (.cons rfl .nil))))) ?_
        refine W.seq ?_
        refine W.ite rfl (fun c3 => ?_) (fun c3 => ?_)
        · refine W.skip ?_
          refine WX.next ?_
          refine W.seq ?_
          refine W.block ?_
          refine W.seq ?_
          refine W.region ?_
          refine WL.move rfl rfl ?_
          refine WL.idxA Try.underlying22 Try.sizeOf3 rfl rfl (RdL.isSome (E := intE) (by first | with_reducible assumption | with_reducible exact RdL.mem (by with_reducible assumption) M | exact M.rdL (by first | ((repeat (first | with_reducible exact Has.here | with_reducible refine Has.there ?_)); done) | (repeat (first | exact Has.here | refine Has.there ?_))) | exact RdLH.at (by assumption) (M.sel (by first | ((repeat (first | with_reducible exact Sel.refl | with_reducible exact Sel.nil | with_reducible exact Del.here | with_reducible apply Del.there | with_reducible apply Sel.cons | with_reducible apply Sel.drop)); done) | (repeat (first | exact Sel.refl | exact Sel.nil | exact Del.here | apply Del.there | apply Sel.cons | apply Sel.drop)))) | exact RdL.nil _ _ _) (by omega)) (by omega) (by omega) (by first | exact rfl | exact (Int.toNat_of_nonneg (by omega)).symm) rfl ?_
          refine WL.loadE0 (E := intE) Try.isAgg3 rfl (by first | with_reducible assumption | with_reducible exact RdL.mem (by with_reducible assumption) M | exact M.rdL (by first | ((repeat (first | with_reducible exact Has.here | with_reducible refine Has.there ?_)); done) | (repeat (first | exact Has.here | refine Has.there ?_))) | exact RdLH.at (by assumption) (M.sel (by first | ((repeat (first | with_reducible exact Sel.refl | with_reducible exact Sel.nil | with_reducible exact Del.here | with_reducible apply Del.there | with_reducible apply Sel.cons | with_reducible apply Sel.drop)); done) | (repeat (first | exact Sel.refl | exact Sel.nil | exact Del.here | apply Del.there | apply Sel.cons | apply Sel.drop)))) | exact RdL.nil _ _ _) (by omega) rfl rfl ?_
          refine WL.assign rfl rfl ?_
          refine WL.assign rfl rfl ?_
          refine WL.nil ?_
          refine WX.next ?_
          refine W.sub [(5, _), (6, _), (7, _), (26, _), (27, _), (28, _)] (.cons rfl (.cons rfl (.cons rfl (.cons rfl (.cons rfl (.cons rfl .nil)))))) ?_
          refine W.region ?_
          refine WL.move rfl rfl ?_
          refine WL.nilCheck rfl rfl ?_
          refine WL.fieldR (off := 0) Try.underlying59 rfl rfl Try.sizeOf57 rfl rfl rfl ?_
          refine WL.loadR Try.isAgg57 rfl M (by first | ((repeat (first | with_reducible exact Has.here | with_reducible refine Has.there ?_)); done) | (repeat (first | exact Has.here | refine Has.there ?_))) rfl rfl ?_
          refine WL.move rfl rfl ?_
          refine WL.move rfl rfl ?_
          refine WL.idxA Try.underlying57 Try.sizeOf62 rfl rfl (RdL.isSome (E := flowE) (by first | with_reducible assumption | with_reducible exact RdL.mem (by with_reducible assumption) M | exact M.rdL (by first | ((repeat (first | with_reducible exact Has.here | with_reducible refine Has.there ?_)); done) | (repeat (first | exact Has.here | refine Has.there ?_))) | exact RdLH.at (by assumption) (M.sel (by first | ((repeat (first | with_reducible exact Sel.refl | with_reducible exact Sel.nil | with_reducible exact Del.here | with_reducible apply Del.there | with_reducible apply Sel.cons | with_reducible apply Sel.drop)); done) | (repeat (first | exact Sel.refl | exact Sel.nil | exact Del.here | apply Del.there | apply Sel.cons | apply Sel.drop)))) | exact RdL.nil _ _ _) (by omega)) (by omega) (by omega) (by first | exact rfl | exact (Int.toNat_of_nonneg (by omega)).symm) rfl ?_
          refine WL.fieldA (off := 0) Try.underlying62 rfl rfl Try.sizeOf3 rfl rfl rfl ?_
          refine WL.storeE (E := flowE) (x' := { el fw i with share := el l i }) Try.sizeOf3 rfl rfl rfl M (by first | ((repeat (first | with_reducible exact Has.here | with_reducible refine Has.there ?_)); done) | (repeat (first | exact Has.here | refine Has.there ?_))) (by omega) (by repeat (first | exact SetAt.zero | apply SetAt.succ)) (by first | ((repeat (first | with_reducible exact Upd.here | with_reducible apply Upd.there)); done) | (repeat (first | exact Upd.here | apply Upd.there))) ?_
          intro w M
          refine WL.nil ?_
          refine WX.blockNormal ?_
          refine WX.next ?_
          refine W.sub [(5, _), (26, _), (27, _), (28, _)] (.cons rfl (.cons rfl (.cons rfl (.cons rfl .nil)))) ?_
          refine W.region ?_
          refine WL.add rfl rfl (by first | exact wI64 (by omega) | rfl) rfl ?_
          refine WL.move rfl rfl ?_
          refine WL.nil ?_
          skip
          have q : ∀ j, j < l.length → el (fw.set i { el fw i with share := el l i }) j = if j < i + 1 then ⟨el l j, 0, none, 0, []⟩ else ⟨0, 0, none, 0, []⟩ := by
            intro j hj
            rw [el_set _ _ _ _ (by omega)]
            by_cases e : i = j
            · subst e
              rw [if_pos rfl, if_pos (by omega), hel i hj, if_neg (by omega)]
            · rw [if_neg e, hel j hj]
              by_cases h2 : j < i
              · rw [if_pos h2, if_pos (by omega)]
              · rw [if_neg h2, if_neg (by omega)]
          refine WX.round ((i + 1, fw.set i { el fw i with share := el l i })) (by (repeat' (first | exact envSub.nil | refine envSub.cons ?_ ?_)) <;> first | rfl | (refine congrArg some ?_; refine congrArg (Value.int _) ?_; first | omega | (dsimp only; omega)) | (simp; done) | (refine congrArg some ?_; dsimp only; congr 1; omega) | (simp; omega)) ⟨M.sel (by first | ((repeat (first | with_reducible exact Sel.refl | with_reducible exact Sel.nil | with_reducible exact Del.here | with_reducible apply Del.there | with_reducible apply Sel.cons | with_reducible apply Sel.drop)); done) | (repeat (first | exact Sel.refl | exact Sel.nil | exact Del.here | apply Del.there | apply Sel.cons | apply Sel.drop))), ⟨by dsimp only; omega, by simp; exact hfl, q⟩⟩ (by first | omega | (dsimp only; omega))
        · refine W.exit ?_
          refine WX.thenExit ?_
          refine WX.thenExit ?_
          refine WX.blockHere ?_
          refine WX.next ?_
          refine W.seq ?_
          refine W.region ?_
          refine WL.move rfl rfl ?_
          refine WL.assign rfl rfl ?_
          refine WL.assign rfl rfl ?_
          refine WL.nil ?_
          refine WX.next ?_
          refine W.sub [(2, _), (3, _)] (.cons rfl (.cons rfl .nil)) ?_
          refine W.ret ?_
          refine WX.ret2 rfl rfl rfl ?_
          obtain rfl : i = l.length := by omega
          have hkey : fw.map FwX.key = (newS l).fl := by
            apply List.ext_getElem?
            intro j
            unfold newS
            rw [List.getElem?_map, List.getElem?_map]
            rcases Nat.lt_or_ge j l.length with hj | hj
            · rw [el_get hj, el_get (by omega), hel j hj, if_pos hj]
              rfl
            · rw [List.getElem?_eq_none hj, List.getElem?_eq_none (by omega)]
              rfl
          have hs : SdX.s ⟨g4_4, some ⟨g4_2, 0, none⟩, l.length, fw, none, 0, [], false, 0⟩ = newS l := by
            unfold SdX.s
            dsimp only
            rw [hkey]
            rfl
          have hall : ∀ f ∈ fw, f.A = none ∧ f.cap = 0 ∧ f.jobs = [] := by
            intro f hf
            obtain ⟨j, hj, rfl⟩ := List.getElem_of_mem hf
            have h2 := hel j (by omega)
            rw [if_pos (by omega)] at h2
            have e : fw[j] = el fw j := by simp [el, hj]
            rw [e, h2]
            exact ⟨rfl, rfl, rfl⟩
          have M5 := (M.starNone fw hall).nilOwn 3 1
          refine .inr ⟨hb, ⟨g4_4, some ⟨g4_2, 0, none⟩, l.length, fw, none, 0, [], false, 0⟩, rfl, hs, ⟨by rw [hs]; exact (newS_ok hb).1, by rw [hs, (newS_ok hb).2]; rfl⟩, ?_⟩
          unfold SdX.L SdX.row
          dsimp only
          rw [hfl]
          exact M5.sel (by first | ((repeat (first | with_reducible exact Sel.refl | with_reducible exact Sel.nil | with_reducible exact Del.here | with_reducible apply Del.there | with_reducible apply Sel.cons | with_reducible apply Sel.drop)); done) | (repeat (first | exact Sel.refl | exact Sel.nil | exact Del.here | apply Del.there | apply Sel.cons | apply Sel.drop)))
end Go.Proofs.Ytdhmopmfnnlhcaa
