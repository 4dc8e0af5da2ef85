/-
  Walks: a client as it lies; slices.Delete, slices.IndexFunc on clients; atomic numbers.
-/
import Derived.Test.YtmogpoghngmnmaaOnceSlow
import Derived.Test.YtmogpoghngmnmaaSlices
import Derived.Test.YtmogpoghngmnmaaMap
namespace Go.Proofs.Ytmogpoghngmnmaa
open Go Go.RowKit

/-- A client. -/
structure Cl where
  id : Nat
  num : Nat
  busy : Bool
  rep : List UInt8
deriving DecidableEq
instance : Inhabited Cl := ⟨⟨0, 0, false, []⟩⟩
/-- A client as it lies. -/
structure ClX where
  id : Nat
  num : Nat
  busy : Bool
  A : Option Addr
  cap : Nat
  rep : List UInt8
instance : Inhabited ClX := ⟨⟨0, 0, false, none, 0, []⟩⟩
def ClX.key (c : ClX) : Cl := ⟨c.id, c.num, c.busy, c.rep⟩
def ClX.O (c : ClX) : Asr := Asr.own 5 1 c.A c.rep.length c.cap (bs c.rep)
def ClX.v (c : ClX) : Value := .agg #[.int .u64 (c.id : Int), .int .u64 (c.num : Int), .bool c.busy, .slice c.A c.rep.length c.cap]
def clientE : Enc ClX := ⟨45, 4, fun c => [.int .u64 (c.id : Int), .int .u64 (c.num : Int), .bool c.busy, .slice c.A c.rep.length c.cap], fun _ => rfl, (fun a v hv => by
  simp only [List.mem_cons, List.not_mem_nil, or_false] at hv
  rcases hv with rfl | rfl | rfl | rfl <;> rfl), by decide⟩
def posM : MapE Nat Nat := u64M fun k => .int .i64 (k : Int)
theorem Try.elem45 : Elem Try.prog 41 45 4 48 := by
  obtain ⟨i, hi, h1, h2, h3⟩ := info_parts (P := Try.prog) (e := 45) (z := .agg #[.int .u64 0, .int .u64 0, .bool false, .slice none 0 0]) (size := 4) (bytes := 48) (by kernel_rfl)
  exact ⟨Try.underlying41, ⟨i, _, hi, h1, h2, h3, rfl⟩, by decide⟩

section
variable {P : Program} {n : Nat} {ρ : List (Nat × Value)} {w : World} {rest : List Oper} {X : SqV P n} {Y : Sq P n} {d : Nat} {ty : TypeId} {pos : String} {aft : Array Edge}
/-- A function literal. -/
theorem WL.makeFunc {fn : Go.Fn} {xs : List Operand} {vs : List Value} (hx : evs ρ xs = some vs) (hd : Nat.blt d n = true) (kk : X.S rest ((d, .func fn #[] vs.toArray) :: ρ) w) :
    X.S (⟨some d, .makeFunc fn #[] xs.toArray, ty, pos, aft, none⟩ :: rest) ρ w := by
  refine WL.val rfl rfl hd (fun a ha => ?_) kk
  have e := ha.evals hx
  simp only [execOp, List.map_toArray, e]
  rfl
/-- A call of a function without a body. -/
theorem WL.callX {f : FuncId} {xs : List Operand} {ts : Array TypeId} {vs : List Value} {v : Value} {w' : World} (hxs : evs ρ xs = some vs) (hc : (callFunc f vs.toArray).run P w = .ok (.value v) w') (hd : Nat.blt d n = true) (kk : Y.S rest ((d, v) :: ρ) w') :
    Y.S (⟨some d, .call ⟨.value (.func f), xs.toArray, ts⟩, ty, pos, aft, none⟩ :: rest) ρ w :=
  WL.valW rfl rfl hd (fun a ha => by
    have e := ha.evals hxs
    simp only [execOp, resolve, Act.eval, Deferred.ofValue, Sem.run_bind, Sem.run_pure, Result.andThen_ok, invoke, List.map_toArray, e, Array.append_empty, Array.empty_append, hc]) kk
end

theorem sDelC_ok {A : Option Addr} {cap : Nat} {l : List ClX} (i : Nat) (hj : i < l.length) (hl : l.length ≤ 1000000) (w0 w : World) (L L' : List Asr) (M : Mem w0 w L) (hd : Del (Asr.lst clientE A cap l) L L') :
    Fn Try.prog 52 [.slice A l.length cap, .int .i64 (i : Int), .int .i64 ((i + 1 : Nat) : Int)] w fun v w' => v = .slice A (l.eraseIdx i).length cap ∧ Mem w0 w' (Asr.lst clientE A cap (l.eraseIdx i) :: L') := by
  replace M := M.del hd
  rw [List.eraseIdx_eq_take_drop_succ]
  obtain ⟨j, hje⟩ : ∃ j, j = i + 1 := ⟨_, rfl⟩
  rw [← hje]
  have hij : i < j := by omega
  replace hj : j ≤ l.length := by omega
  obtain ⟨g, rfl⟩ := M.lstSome (by omega)
  have hcap : l.length ≤ cap := (M.rdL .here : RdL w clientE _ _ l).le
  have hlen : (l.take i ++ l.drop j).length = l.length - (j - i) := by rw [List.length_append, List.length_take, List.length_drop]; omega
  have hone : ∀ z, (∀ w : World, (zeroValue 45).run Try.prog w = .ok z w) → ∀ v ∈ z.cells.toList, v.oneCell' = true := by
    intro z hz
    have h := (Try.zeroValue45 w0).symm.trans (hz w0)
    cases h
    intro v hv
    simp [Value.cells] at hv
    rcases hv with rfl | rfl | rfl <;> rfl
  refine Fn.enter Try.func52 rfl Try.ntmps52 rfl ?_
  refine W.sub [(0, _), (1, _), (2, _)] (.cons rfl (.cons rfl (.cons rfl .nil))) ?_
  refine W.seq ?_
  refine W.region ?_
  refine WL.assign rfl rfl ?_
  refine WL.nil ?_
  refine WX.next ?_
  refine W.sub [(0, _), (1, _), (2, _)] (.cons rfl (.cons rfl (.cons rfl .nil))) ?_
  refine W.seq ?_
  refine W.region ?_
  refine WL.move rfl rfl ?_
  refine WL.move rfl rfl ?_
  refine WL.move rfl rfl ?_
  refine WL.move rfl rfl ?_
  refine WL.len Try.underlying41 rfl rfl ?_
  refine WL.slice3 Try.underlying41 Try.sizeOf45 rfl rfl rfl rfl (by omega) (by omega) (by omega) rfl ?_
  intro v13
  refine WL.nil ?_
  refine WX.next ?_
  refine W.sub [(0, _), (1, _), (2, _)] (.cons rfl (.cons rfl (.cons rfl .nil))) ?_
  refine W.seq ?_
  refine W.seq ?_
  refine W.region ?_
  refine WL.move rfl rfl ?_
  refine WL.move rfl rfl ?_
  refine WL.eqI rfl rfl rfl ?_
  refine WL.nil ?_
  refine WX.next ?_
  refine W.sub [(0, _), (1, _), (2, _), (16, _)] (.cons rfl (.cons rfl (.cons rfl (.cons rfl .nil)))) ?_
  refine W.ite rfl (fun c0 => ?_) (fun c0 => ?_)
  · exact absurd c0 (by omega)
  · refine W.skip ?_
    refine WX.next ?_
    refine W.seq ?_
    refine W.region ?_
    refine WL.move rfl rfl ?_
    refine WL.len Try.underlying41 rfl rfl ?_
    refine WL.assign rfl rfl ?_
    refine WL.nil ?_
    refine WX.next ?_
    refine W.sub [(0, _), (1, _), (2, _), (7, _)] (.cons rfl (.cons rfl (.cons rfl (.cons rfl .nil)))) ?_
    refine W.seq ?_
    refine W.drawM (_) (by kernel_rfl) (fun _ => false) M Sel.refl ?_
    clear M; intro M
    apply DG.pure_ [0, 1, 2, 3, 4, 5] 2 rfl (by kernel_rfl) (by kernel_rfl)
    · intro w
      refine WL.move rfl rfl ?_
      refine WL.move rfl rfl ?_
      refine WL.cutH Try.underlying41 Try.sizeOf45 rfl rfl (by omega) (by omega) rfl rfl ?_
      refine WL.move rfl rfl ?_
      refine WL.move rfl rfl ?_
      refine WL.cutL Try.underlying41 Try.sizeOf45 rfl rfl (by omega) (by omega) (by first | exact rfl | exact (Int.toNat_of_nonneg (by omega)).symm) rfl rfl ?_
      exact Chain.end_ rfl
    refine DG.step 6 1 rfl (by kernel_rfl) ?_
    refine WL.appendIn (E := clientE) (l := l.take i) (news := l.drop j) Try.elem45 rfl rfl (M.lstPre i (by omega)) .here (RdL.suf (M.rdL .here) hj) (by simp; omega) (by simp) (by rw [List.length_take, List.length_drop]; omega) rfl ?_
    intro w M
    refine DG.go (G := fun _ => false) (i := 6) (f' := 1) (done := [0, 1, 2, 3, 4, 5]) (fun h => by cases h) ?_
    apply DG.pure_ [7] 0 rfl (by kernel_rfl) (by kernel_rfl)
    · intro w
      refine WL.assign rfl rfl ?_
      exact Chain.end_ rfl
    refine DG.end_ (by kernel_rfl) ?_
    refine WX.next ?_
    refine W.sub [(0, _), (7, _)] (.cons rfl (.cons rfl .nil)) ?_
    refine W.seq ?_
    refine W.region ?_
    refine WL.move rfl rfl ?_
    refine WL.move rfl rfl ?_
    refine WL.len Try.underlying41 rfl rfl ?_
    refine WL.move rfl rfl ?_
    refine WL.cutLH Try.underlying41 Try.sizeOf45 rfl rfl rfl (by omega) (by omega) (by omega) (by first | exact rfl | exact (Int.toNat_of_nonneg (by omega)).symm) (by first | exact rfl | exact (Int.toNat_of_nonneg (by omega)).symm) rfl rfl ?_
    have hcut : cutA (some ⟨g, 0, none⟩) (l.take i ++ l.drop j).length 4 cap = some ⟨g, (l.take i ++ l.drop j).length * 4, none⟩ := by
      unfold cutA
      rw [if_neg (by omega)]
      simp [add_lit]
    rw [hcut]
    refine WL.clearTail (E := clientE) (l := l.take i ++ l.drop j) Try.elem45 hone rfl rfl M .here (by omega) ?_
    intro w M
    refine WL.nil ?_
    refine WX.next ?_
    refine W.sub [(0, _)] (.cons rfl .nil) ?_
    refine W.seq ?_
    refine W.region ?_
    refine WL.move rfl rfl ?_
    refine WL.assign rfl rfl ?_
    refine WL.nil ?_
    refine WX.next ?_
    refine W.sub [(6, _)] (.cons rfl .nil) ?_
    refine W.ret ?_
    refine WX.ret1 rfl rfl ?_
    exact ⟨rfl, M⟩

theorem Begin1_ok (c : ClX) (w0 : World) : Fn Try.prog 34 [c.v] w0 fun v w' => v = .bool (!c.busy) ∧ Mem w0 w' [] := by
  have M := Mem.refl w0
  obtain ⟨w, hw⟩ : ∃ w, w = w0 := ⟨w0, rfl⟩
  unfold ClX.v
  refine Fn.enter Try.func34 rfl Try.ntmps34 rfl ?_
  refine W.sub [(0, _)] (.cons rfl .nil) ?_
  refine W.seq ?_
  refine W.region ?_
  refine WL.box rfl M rfl ?_
  intro g0_0 w M
  try simp only [Value.cells] at M
  try simp only [List.toList_toArray] at M
  refine WL.assign rfl rfl ?_
  refine WL.nil ?_
  refine WX.next ?_
  refine W.sub [(1, _)] (.cons rfl .nil) ?_
  refine W.seq ?_
  refine W.region ?_
  refine WL.fieldR (off := 2) Try.underlying45 rfl rfl Try.sizeOf4 rfl rfl rfl ?_
  refine WL.loadR Try.isAgg4 rfl M (by first | ((repeat (first | with_reducible exact Has.here | with_reducible refine Has.there ?_)); done) | (repeat (first | exact Has.here | refine Has.there ?_))) rfl rfl ?_
  refine WL.not rfl rfl ?_
  refine WL.assign rfl rfl ?_
  refine WL.nil ?_
  refine WX.next ?_
  refine W.sub [(2, _)] (.cons rfl .nil) ?_
  refine W.ret ?_
  refine WX.ret1 rfl rfl ?_
  exact ⟨rfl, M.sel (by first | ((repeat (first | with_reducible exact Sel.refl | with_reducible exact Sel.nil | with_reducible exact Del.here | with_reducible apply Del.there | with_reducible apply Sel.cons | with_reducible apply Sel.drop)); done) | (repeat (first | exact Sel.refl | exact Sel.nil | exact Del.here | apply Del.there | apply Sel.cons | apply Sel.drop)))⟩
theorem Begin1_call : ∀ (args : Array Value) (w : World), (callFunc 34 args).run Try.prog w = .ok (.enter 34 args) w := Try.call34

def fnB : Value := .func (.func 34) #[] #[]
/-- The first that is not under way; the list's length where there is none. -/
def freeN (l : List ClX) : Nat := l.findIdx fun c => !c.busy
theorem findIdx_of {α : Type} [Inhabited α] {p : α → Bool} {l : List α} {i : Nat} (hi : i < l.length) (h : p (el l i) = true) (hs : ∀ j, j < i → p (el l j) = false) : l.findIdx p = i := by
  rw [List.findIdx_eq hi]
  have e : ∀ j (hj : j < l.length), l[j] = el l j := fun j hj => by simp [el, hj]
  refine ⟨by rw [e]; exact h, fun j hj => by rw [e]; exact hs j hj⟩
theorem findIdx_no {α : Type} [Inhabited α] {p : α → Bool} {l : List α} (hs : ∀ j, j < l.length → p (el l j) = false) : l.findIdx p = l.length := by
  rw [List.findIdx_eq_length]
  intro x hx
  obtain ⟨j, hj, rfl⟩ := List.getElem_of_mem hx
  have := hs j hj
  simpa [el, hj] using this
/-- A place, as a number: -1 where there is none. -/
def atI (n p : Nat) : Int := if p < n then (p : Int) else -1
theorem atI_in {n p : Nat} (h : p < n) : atI n p = (p : Int) := if_pos h
theorem atI_out {n p : Nat} (h : ¬ p < n) : atI n p = -1 := if_neg h
theorem sIndexC_ok {A : Option Addr} {cap : Nat} {l : List ClX} {w0 : World} (h : RdL w0 clientE A cap l) (hl : l.length ≤ 1000000) :
    Fn Try.prog 33 [.slice A l.length cap, .func (.func 34) #[] #[]] w0 fun v w' => v = .int .i64 (atI l.length (freeN l)) ∧ Mem w0 w' [] := by
  have M := Mem.refl w0
  obtain ⟨w, hw⟩ : ∃ w, w = w0 := ⟨w0, rfl⟩
  refine Fn.enter Try.func33 rfl Try.ntmps33 rfl ?_
  refine W.sub [(0, _), (1, _)] (.cons rfl (.cons rfl .nil)) ?_
  refine W.seq ?_
  refine W.region ?_
  refine WL.assign rfl rfl ?_
  refine WL.nil ?_
  refine WX.next ?_
  refine W.sub [(0, _), (1, _)] (.cons rfl (.cons rfl .nil)) ?_
  refine W.seq ?_
  refine W.seq ?_
  refine W.region ?_
  refine WL.move rfl rfl ?_
  refine WL.len Try.underlying41 rfl rfl ?_
  refine WL.move rfl rfl ?_
  refine WL.nil ?_
  refine WX.next ?_
  refine W.sub [(0, _), (1, _), (7, _), (8, _)] (.cons rfl (.cons rfl (.cons rfl (.cons rfl .nil)))) ?_
  refine W.block ?_
  refine W.loop (ι := Nat) (fun i => [(0, .slice A l.length cap), (1, fnB), (7, .int .i64 (l.length : Int)), (8, .int .i64 (i : Int))]) (fun zz w => Mem w0 w ((fun _ => []) zz) ∧ (fun i => i ≤ l.length ∧ ∀ j, j < i → (!(el l j).busy) = false) zz) (fun i => l.length - i) (0) (by (repeat' (first | exact envSub.nil | refine envSub.cons ?_ ?_)) <;> first | rfl | (refine congrArg some ?_; refine congrArg (Value.int _) ?_; first | omega | (dsimp only; omega)) | (simp; done) | (refine congrArg some ?_; dsimp only; congr 1; omega) | (simp; omega)) ⟨M.sel (by first | ((repeat (first | with_reducible exact Sel.refl | with_reducible exact Sel.nil | with_reducible exact Del.here | with_reducible apply Del.there | with_reducible apply Sel.cons | with_reducible apply Sel.drop)); done) | (repeat (first | exact Sel.refl | exact Sel.nil | exact Del.here | apply Del.there | apply Sel.cons | apply Sel.drop))), ⟨by omega, fun j hj => absurd hj (by omega)⟩⟩ ?_
  clear M; rintro (i) w ⟨M, ⟨hi, hs⟩⟩; dsimp only at M hi hs ⊢
  refine W.sub [(0, _), (1, _), (7, _), (8, _)] (.cons rfl (.cons rfl (.cons rfl (.cons rfl .nil)))) ?_
  refine W.seq ?_
  refine W.region ?_
  refine WL.lss rfl rfl rfl ?_
  refine WL.nil ?_
  refine WX.next ?_
  refine W.sub [(0, _), (1, _), (7, _), (8, _), (9, _)] (.cons rfl (.cons rfl (.cons rfl (.cons rfl (.cons rfl .nil))))) ?_
  refine W.seq ?_
  refine W.ite rfl (fun c0 => ?_) (fun c0 => ?_)
  · refine W.skip ?_
    refine WX.next ?_
    refine W.seq ?_
    refine W.block ?_
    refine W.seq ?_
    refine W.region ?_
    refine WL.move rfl rfl ?_
    refine WL.assign rfl rfl ?_
    refine WL.nil ?_
    refine WX.next ?_
    refine W.sub [(0, _), (1, _), (5, _), (7, _), (8, _)] (.cons rfl (.cons rfl (.cons rfl (.cons rfl (.cons rfl .nil))))) ?_
    refine W.seq ?_
    refine W.region ?_
    refine WL.move rfl rfl ?_
    refine WL.move rfl rfl ?_
    refine WL.move rfl rfl ?_
    refine WL.idxA Try.underlying41 Try.sizeOf45 rfl rfl (RdL.isSome (E := clientE) (by first | with_reducible assumption | with_reducible exact RdL.mem (by with_reducible assumption) M | exact M.rdL (by first | ((repeat (first | with_reducible exact Has.here | with_reducible refine Has.there ?_)); done) | (repeat (first | exact Has.here | refine Has.there ?_))) | exact RdLH.at (by assumption) (M.sel (by first | ((repeat (first | with_reducible exact Sel.refl | with_reducible exact Sel.nil | with_reducible exact Del.here | with_reducible apply Del.there | with_reducible apply Sel.cons | with_reducible apply Sel.drop)); done) | (repeat (first | exact Sel.refl | exact Sel.nil | exact Del.here | apply Del.there | apply Sel.cons | apply Sel.drop)))) | exact RdL.nil _ _ _) (by omega)) (by omega) (by omega) (by first | exact rfl | exact (Int.toNat_of_nonneg (by omega)).symm) rfl ?_
    refine WL.loadL (E := clientE) (cs := [_, _, _, _]) Try.isAgg45 Try.sizeOf45 rfl (by first | with_reducible assumption | with_reducible exact RdL.mem (by with_reducible assumption) M | exact M.rdL (by first | ((repeat (first | with_reducible exact Has.here | with_reducible refine Has.there ?_)); done) | (repeat (first | exact Has.here | refine Has.there ?_))) | exact RdLH.at (by assumption) (M.sel (by first | ((repeat (first | with_reducible exact Sel.refl | with_reducible exact Sel.nil | with_reducible exact Del.here | with_reducible apply Del.there | with_reducible apply Sel.cons | with_reducible apply Sel.drop)); done) | (repeat (first | exact Sel.refl | exact Sel.nil | exact Del.here | apply Del.there | apply Sel.cons | apply Sel.drop)))) | exact RdL.nil _ _ _) rfl (by omega) rfl rfl ?_
    refine WL.callV Begin1_call rfl rfl (Begin1_ok (el l i) _) rfl ?_
    rintro _ w ⟨rfl, m⟩
    replace M := M.call0 m; clear m
    refine WL.nil ?_
    refine WX.next ?_
    refine W.sub [(0, _), (1, _), (5, _), (7, _), (8, _), (16, _)] (.cons rfl (.cons rfl (.cons rfl (.cons rfl (.cons rfl (.cons rfl .nil)))))) ?_
    refine W.cond rfl (fun c1 => ?_) (fun c1 => ?_)
    · (try simp only [Bool.not_eq_true'] at c1); (try simp only [Bool.not_eq_false'] at c1); (try simp only [decide_eq_true_eq] at c1); (try simp only [decide_eq_false_iff_not] at c1)
      refine W.seq ?_
      refine W.region ?_
      refine WL.move rfl rfl ?_
      refine WL.assign rfl rfl ?_
      refine WL.nil ?_
      refine WX.next ?_
      refine W.sub [(4, _)] (.cons rfl .nil) ?_
      refine W.ret ?_
      refine WX.blockRet ?_
      refine WX.thenRet ?_
      refine WX.thenRet ?_
      refine WX.blockRet ?_
      refine WX.thenRet ?_
      refine WX.ret1 rfl rfl ?_
      have e : freeN l = i := findIdx_of (by omega) (by simpa using c1) hs
      rw [e, atI_in (by omega)]
      exact ⟨rfl, M⟩
    · (try simp only [Bool.not_eq_true'] at c1); (try simp only [Bool.not_eq_false'] at c1); (try simp only [decide_eq_true_eq] at c1); (try simp only [decide_eq_false_iff_not] at c1)
      refine W.skip ?_
      refine WX.blockNormal ?_
      refine WX.next ?_
      refine W.region ?_
      refine WL.add rfl rfl (by first | exact wI64 (by omega) | rfl) rfl ?_
      refine WL.move rfl rfl ?_
      refine WL.nil ?_
      skip
      have q : ∀ j, j < i + 1 → (!(el l j).busy) = false := by
        intro j hj
        rcases Nat.lt_or_ge j i with h1 | h1
        · exact hs j h1
        · obtain rfl : j = i := by omega
          simpa using c1
      refine WX.round (i + 1) (by (repeat' (first | exact envSub.nil | refine envSub.cons ?_ ?_)) <;> first | rfl | (refine congrArg some ?_; refine congrArg (Value.int _) ?_; first | omega | (dsimp only; omega)) | (simp; done) | (refine congrArg some ?_; dsimp only; congr 1; omega) | (simp; omega)) ⟨M.sel (by first | ((repeat (first | with_reducible exact Sel.refl | with_reducible exact Sel.nil | with_reducible exact Del.here | with_reducible apply Del.there | with_reducible apply Sel.cons | with_reducible apply Sel.drop)); done) | (repeat (first | exact Sel.refl | exact Sel.nil | exact Del.here | apply Del.there | apply Sel.cons | apply Sel.drop))), ⟨by omega, q⟩⟩ (by first | omega | (dsimp only; omega))
  · refine W.exit ?_
    refine WX.thenExit ?_
    refine WX.thenExit ?_
    refine WX.blockHere ?_
    refine WX.next ?_
    refine W.seq ?_
    refine W.region ?_
    refine WL.assign rfl rfl ?_
    refine WL.nil ?_
    refine WX.next ?_
    refine W.sub [(4, _)] (.cons rfl .nil) ?_
    refine W.ret ?_
    refine WX.ret1 rfl rfl ?_
    obtain rfl : i = l.length := by omega
    have e : freeN l = l.length := findIdx_no hs
    rw [e, atI_out (by omega)]
    exact ⟨rfl, M⟩

section
variable {w0 w : World} {L L' : List Asr}
/-- (*atomic.Int64).Load of a cell that is known. -/
theorem aLoad_ok {g o : Nat} {z : Int} (hc : w.cell? ⟨g, o, none⟩ = some (.int .i64 z)) : Fn Try.prog 35 [.pointer (some ⟨g, o, none⟩)] w fun v w' => v = .int .i64 z ∧ w' = w := by
  have hl := run_call_load (P := Try.prog) Try.func54 (by kernel_rfl) (by kernel_rfl) (by kernel_rfl) .i64 (by kernel_rfl) hc
  refine Fn.enter Try.func35 rfl Try.ntmps35 rfl ?_
  refine W.sub [(0, _)] (.cons rfl .nil) ?_
  refine W.seq ?_
  refine W.region ?_
  refine WL.assign rfl rfl ?_
  refine WL.nil ?_
  refine WX.next ?_
  refine W.sub [(0, _)] (.cons rfl .nil) ?_
  refine W.seq ?_
  refine W.region ?_
  refine WL.move rfl rfl ?_
  refine WL.nilCheck rfl rfl ?_
  refine WL.fieldRO (off := 0) Try.underlying86 rfl rfl Try.sizeOf2 rfl rfl rfl ?_
  refine WL.callX (vs := [.pointer (some ⟨g, o, none⟩)]) rfl hl rfl ?_
  refine WL.assign rfl rfl ?_
  refine WL.nil ?_
  refine WX.next ?_
  refine W.sub [(2, _)] (.cons rfl .nil) ?_
  refine W.ret ?_
  refine WX.ret1 rfl rfl ?_
  exact ⟨rfl, rfl⟩
theorem aAdd_ok {g o : Nat} {z y s : Int} (hc : w.cell? ⟨g, o, none⟩ = some (.int .i64 z)) (hz : w.frozen? ⟨g, o, none⟩ = false) (hs : IntKind.i64.wrap (z + y) = s) : Fn Try.prog 32 [.pointer (some ⟨g, o, none⟩), .int .i64 y] w fun v w' => v = .int .i64 s ∧ w' = w.setCell ⟨g, o, none⟩ (.int .i64 s) := by
  have hl := run_call_add (P := Try.prog) Try.func53 (by kernel_rfl) (by kernel_rfl) (by kernel_rfl) .i64 (by kernel_rfl) (y := y) (s := s) hc hz (by simp [Op.intArith, hs])
  refine Fn.enter Try.func32 rfl Try.ntmps32 rfl ?_
  refine W.sub [(0, _), (1, _)] (.cons rfl (.cons rfl .nil)) ?_
  refine W.seq ?_
  refine W.region ?_
  refine WL.assign rfl rfl ?_
  refine WL.nil ?_
  refine WX.next ?_
  refine W.sub [(0, _), (1, _)] (.cons rfl (.cons rfl .nil)) ?_
  refine W.seq ?_
  refine W.region ?_
  refine WL.move rfl rfl ?_
  refine WL.nilCheck rfl rfl ?_
  refine WL.fieldRO (off := 0) Try.underlying86 rfl rfl Try.sizeOf2 rfl rfl rfl ?_
  refine WL.move rfl rfl ?_
  refine WL.callX (vs := [.pointer (some ⟨g, o, none⟩), .int .i64 y]) rfl hl rfl ?_
  refine WL.assign rfl rfl ?_
  refine WL.nil ?_
  refine WX.next ?_
  refine W.sub [(4, _)] (.cons rfl .nil) ?_
  refine W.ret ?_
  refine WX.ret1 rfl rfl ?_
  exact ⟨rfl, rfl⟩
end
end Go.Proofs.Ytmogpoghngmnmaa
