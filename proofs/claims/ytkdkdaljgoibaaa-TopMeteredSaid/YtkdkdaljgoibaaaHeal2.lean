/-
  Walks: who is up, what is live, on how many nodes of a site, where a copy is made, from where (heal).
-/
import Derived.Test.YtkdkdaljgoibaaaHeal1
namespace Go.Proofs.Ytkdkdaljgoibaaa
open Go Go.RowKit Bin

section
variable {P : Program} {n : Nat} {ρ : List (Nat × Value)} {w : World} {rest : List Oper} {X : SqV P n} {d : Nat} {ty : TypeId} {pos : String} {aft : Array Edge}
/-- A function literal. -/
theorem WL.makeFunc {fn : Go.Fn} {xs : List Operand} {vs : List Value} (hx : evs ρ xs = some vs) (hd : Nat.blt d n = true) (kk : X.S rest ((d, .func fn #[] vs.toArray) :: ρ) w) :
    X.S (⟨some d, .makeFunc fn #[] xs.toArray, ty, pos, aft, none⟩ :: rest) ρ w := by
  refine WL.val rfl rfl hd (fun a ha => ?_) kk
  have e := ha.evals hx
  simp only [execOp, List.map_toArray, e]
  rfl
end
theorem rd_one {w0 w : World} {L : List Asr} {g : Nat} {t : TypeId} {cs : List Value} (M : Mem w0 w L) (h : Has (Asr.row g t cs) L) (o : Nat) {v : Value} (hv : cs[o]? = some v) : Rd w (some ⟨g, o, none⟩) 1 1 1 [v] := by
  obtain ⟨L', hd⟩ := h.del
  refine ⟨rfl, Nat.le_refl _, fun _ => ⟨_, rfl, (Array.getElem?_eq_some_iff.1 (M.del hd).head).1, fun j u hu => ?_⟩⟩
  have hj : j < 1 := (List.getElem?_eq_some_iff.1 hu).1
  obtain rfl : j = 0 := by omega
  rw [add_lit, Nat.add_zero, M.cellH h, hv]
  exact hu
theorem Rd.one {w : World} {ad : Addr} {v : Value} (h : Rd w (some ad) 1 1 1 [v]) : w.cell? ad = some v := by
  obtain ⟨_, e, _, hc⟩ := h.at_ (by decide)
  cases e
  have := hc 0 v rfl
  have e2 : ad.add 0 = ad := by cases ad; rw [Addr.add]; simp
  rwa [e2] at this
theorem shr_bit (n k : Nat) : (n : Int) / 2 ^ ((k : Int)).toNat = ((n / 2 ^ k : Nat) : Int) := by
  rw [Int.toNat_natCast]
  push_cast
  rfl
theorem and_one (n : Nat) (h : n < 4294967296) : bits .and .u32 (n : Int) 1 = ((n % 2 : Nat) : Int) := by
  have := andU32 n 1 h (by omega)
  rw [show n &&& 1 = n % 2 from Nat.and_two_pow_sub_one_eq_mod n 1] at this
  exact this

theorem live1_call : ∀ (args : Array Value) (w : World), (callFunc 26 args).run Try.prog w = .ok (.enter 26 args) w := Try.call26
theorem target1_call : ∀ (args : Array Value) (w : World), (callFunc 29 args).run Try.prog w = .ok (.enter 29 args) w := Try.call29
theorem source1_call : ∀ (args : Array Value) (w : World), (callFunc 34 args).run Try.prog w = .ok (.enter 34 args) w := Try.call34
theorem isW_ok {g up : Nat} (hup : up < 4294967296) {n : Int} (h0 : 0 ≤ n) (h1 : n < 12) {w0 : World} (hu : Rd w0 (some ⟨g, 1, none⟩) 1 1 1 [.int .u32 (up : Int)]) :
    Fn Try.prog 27 [.pointer (some ⟨g, 0, none⟩), .int .i64 n] w0 fun v w' => v = .bool (hUp up n) ∧ w' = w0 := by
  have M := Mem.refl w0
  obtain ⟨k, rfl⟩ : ∃ k : Nat, n = (k : Int) := ⟨n.toNat, by omega⟩
  have hd : up / 2 ^ k < 4294967296 := Nat.lt_of_le_of_lt (Nat.div_le_self ..) hup
  refine Fn.enter Try.func27 rfl Try.ntmps27 rfl ?_
  refine W.sub [(0, _), (1, _)] (.cons rfl (.cons rfl .nil)) ?_
  refine W.seq ?_
  refine W.region ?_
  refine WL.assign rfl rfl ?_
  refine WL.nil ?_
  refine WX.next ?_
  refine W.sub [(0, _), (1, _)] (.cons rfl (.cons rfl .nil)) ?_
  refine W.seq ?_
  refine W.region ?_
  refine WL.move rfl rfl ?_
  refine WL.nilCheck rfl rfl ?_
  refine WL.fieldR (off := 1) Try.underlying51 rfl rfl Try.sizeOf23 rfl rfl rfl ?_
  refine WL.load Try.isAgg23 rfl hu.one rfl ?_
  refine WL.move rfl rfl ?_
  refine WL.shr rfl rfl (by omega) (by show _ ≤ (32 : Int); omega) (shr_bit up k) rfl ?_
  refine WL.band rfl rfl (and_one _ hd) rfl ?_
  refine WL.eqI rfl rfl rfl ?_
  refine WL.assign rfl rfl ?_
  refine WL.nil ?_
  refine WX.next ?_
  refine W.sub [(4, _)] (.cons rfl .nil) ?_
  refine W.ret ?_
  refine WX.ret1 rfl rfl ?_
  refine ⟨?_, rfl⟩
  unfold hUp
  rw [Int.toNat_natCast]
  congr 1
  rw [decide_eq_decide]
  omega
theorem live1_ok {g gw up : Nat} (hup : up < 4294967296) {n : Int} (h0 : 0 ≤ n) (h1 : n < 12) {w0 : World} (hv : Rd w0 (some ⟨gw, 0, none⟩) 1 1 1 [.pointer (some ⟨g, 0, none⟩)]) (hu : Rd w0 (some ⟨g, 1, none⟩) 1 1 1 [.int .u32 (up : Int)]) :
    Fn Try.prog 26 [.int .i64 n, .pointer (some ⟨gw, 0, none⟩)] w0 fun v w' => v = .bool (!hUp up n) ∧ Mem w0 w' [] := by
  have M := Mem.refl w0
  refine Fn.enter Try.func26 rfl Try.ntmps26 rfl ?_
  refine W.sub [(0, _), (1, _)] (.cons rfl (.cons rfl .nil)) ?_
  refine W.seq ?_
  refine W.region ?_
  refine WL.assign rfl rfl ?_
  refine WL.nil ?_
  refine WX.next ?_
  refine W.sub [(0, _), (1, _)] (.cons rfl (.cons rfl .nil)) ?_
  refine W.seq ?_
  refine W.region ?_
  refine WL.load Try.isAgg45 rfl hv.one rfl ?_
  refine WL.move rfl rfl ?_
  refine WL.call Try.call27 rfl (isW_ok hup h0 h1 hu) rfl ?_
  rintro _ _ ⟨rfl, rfl⟩
  refine WL.not rfl rfl ?_
  refine WL.assign rfl rfl ?_
  refine WL.nil ?_
  refine WX.next ?_
  refine W.sub [(3, _)] (.cons rfl .nil) ?_
  refine W.ret ?_
  refine WX.ret1 rfl rfl ?_
  exact ⟨rfl, M⟩
theorem live_ok {g up : Nat} (hup : up < 4294967296) {A : Option Addr} {cap : Nat} {nodes : List Int} (hr : ∀ x ∈ nodes, 0 ≤ x ∧ x < 12) (hl : nodes.length ≤ 1000) {w0 : World} (hu : Rd w0 (some ⟨g, 1, none⟩) 1 1 1 [.int .u32 (up : Int)]) (h : RdL w0 intE A cap nodes) :
    Fn Try.prog 13 [.pointer (some ⟨g, 0, none⟩), .slice A nodes.length cap] w0 fun v w' => ∃ A' c', v = .slice A' (hLive up nodes).length c' ∧ Mem w0 w' [Asr.lst intE A' c' (hLive up nodes)] := by
  have M := Mem.refl w0
  obtain ⟨w, hw⟩ : ∃ w, w = w0 := ⟨w0, rfl⟩
  have he : nodes.filter (fun x => !(!hUp up x)) = hLive up nodes := by
    unfold hLive
    congr 1
    funext x
    simp
  refine Fn.enter Try.func13 rfl Try.ntmps13 rfl ?_
  refine W.sub [(0, _), (1, _)] (.cons rfl (.cons rfl .nil)) ?_
  refine W.seq ?_
  refine W.region ?_
  refine WL.box rfl M rfl ?_
  intro g0_0 w M
  try simp only [Value.cells] at M
  try simp only [List.toList_toArray] at M
  refine WL.assign rfl rfl ?_
  refine WL.nil ?_
  refine WX.next ?_
  refine W.sub [(1, _), (2, _)] (.cons rfl (.cons rfl .nil)) ?_
  refine W.seq ?_
  refine W.region ?_
  refine WL.move rfl rfl ?_
  refine WL.call Try.call12 rfl (sClone_ok (h.mem M) (by omega)) rfl ?_
  rintro _ w ⟨A1, c1, rfl, m⟩
  replace M := M.call1 m; clear m
  refine WL.makeFunc (vs := [.pointer (some ⟨g0_0, 0, none⟩)]) rfl rfl ?_
  refine WL.call Try.call25 rfl (sDelF_ok (l := nodes) _ #[.pointer (some ⟨g0_0, 0, none⟩)] (fun x => !hUp up x) live1_call (by omega) w0 w _ _ M (by first | ((repeat (first | with_reducible exact Del.here | with_reducible apply Del.there)); done) | (repeat (first | exact Del.here | apply Del.there))) (fun x hx w' m => live1_ok hup (hr x hx).1 (hr x hx).2 (rd_one m (by first | ((repeat (first | with_reducible exact Has.here | with_reducible refine Has.there ?_)); done) | (repeat (first | exact Has.here | refine Has.there ?_))) 0 rfl) (hu.mem m))) rfl ?_
  rintro _ w ⟨rfl, M⟩
  rw [he] at M ⊢
  refine WL.assign rfl rfl ?_
  refine WL.nil ?_
  refine WX.next ?_
  refine W.sub [(4, _)] (.cons rfl .nil) ?_
  refine W.ret ?_
  refine WX.ret1 rfl rfl ?_
  exact ⟨A1, c1, rfl, M.sel (by first | ((repeat (first | with_reducible exact Sel.refl | with_reducible exact Sel.nil | with_reducible exact Del.here | with_reducible apply Del.there | with_reducible apply Sel.cons | with_reducible apply Sel.drop)); done) | (repeat (first | exact Sel.refl | exact Sel.nil | exact Del.here | apply Del.there | apply Sel.cons | apply Sel.drop)))⟩
theorem on_ok {g : Nat} {As Al : Option Addr} {cs cl : Nat} {sites live : List Int} (hs1 : sites.length ≤ 12) (hlv : ∀ x ∈ live, 0 ≤ x ∧ x < (sites.length : Int)) (hll : live.length ≤ 1000) {n : Int} (h0 : 0 ≤ n) (h1 : n < (sites.length : Int)) {w0 : World}
    (hs : Rd w0 (some ⟨g, 0, none⟩) 1 1 1 [.slice As sites.length cs]) (hS : RdL w0 intE As cs sites) (hL : RdL w0 intE Al cl live) :
    Fn Try.prog 32 [.pointer (some ⟨g, 0, none⟩), .slice Al live.length cl, .int .i64 n] w0 fun v w' => (∃ z : Int, v = .int .i64 z) ∧ Mem w0 w' [] := by
  have M := Mem.refl w0
  obtain ⟨w, hw⟩ : ∃ w, w = w0 := ⟨w0, rfl⟩
  obtain ⟨nn, rfl⟩ : ∃ k : Nat, n = (k : Int) := ⟨n.toNat, by omega⟩
  refine Fn.enter Try.func32 rfl Try.ntmps32 rfl ?_
  refine W.sub [(0, _), (1, _), (2, _)] (.cons rfl (.cons rfl (.cons rfl .nil))) ?_
  refine W.seq ?_
  refine W.region ?_
  refine WL.assign rfl rfl ?_
  refine WL.nil ?_
  refine WX.next ?_
  refine W.sub [(0, _), (1, _), (2, _)] (.cons rfl (.cons rfl (.cons rfl .nil))) ?_
  refine W.seq ?_
  refine W.region ?_
  refine WL.assign rfl rfl ?_
  refine WL.nil ?_
  refine WX.next ?_
  refine W.sub [(0, _), (1, _), (2, _), (7, _)] (.cons rfl (.cons rfl (.cons rfl (.cons rfl .nil)))) ?_
  refine W.seq ?_
  refine W.seq ?_
  refine W.region ?_
  refine WL.move rfl rfl ?_
  refine WL.len Try.underlying22 rfl rfl ?_
  refine WL.move rfl rfl ?_
  refine WL.nil ?_
  refine WX.next ?_
  refine W.sub [(0, _), (2, _), (7, _), (10, _), (11, _), (12, _)] (.cons rfl (.cons rfl (.cons rfl (.cons rfl (.cons rfl (.cons rfl .nil)))))) ?_
  refine W.block ?_
  refine W.loop (ι := Nat × Nat) (fun z => [(0, .pointer (some ⟨g, 0, none⟩)), (2, .int .i64 (nn : Int)), (7, .int .i64 (z.2 : Int)), (10, .slice Al live.length cl), (11, .int .i64 (live.length : Int)), (12, .int .i64 (z.1 : Int))]) (fun zz w => Mem w0 w ((fun _ => []) zz) ∧ (fun z => z.1 ≤ live.length ∧ z.2 ≤ z.1) zz) (fun z => live.length - z.1) ((0, 0)) (by (repeat' (first | exact envSub.nil | refine envSub.cons ?_ ?_)) <;> first | rfl | (refine congrArg some ?_; refine congrArg (Value.int _) ?_; first | omega | (dsimp only; omega)) | (simp; done) | (refine congrArg some ?_; dsimp only; congr 1; omega) | (simp; omega)) ⟨M.sel (by first | ((repeat (first | with_reducible exact Sel.refl | with_reducible exact Sel.nil | with_reducible exact Del.here | with_reducible apply Del.there | with_reducible apply Sel.cons | with_reducible apply Sel.drop)); done) | (repeat (first | exact Sel.refl | exact Sel.nil | exact Del.here | apply Del.there | apply Sel.cons | apply Sel.drop))), ⟨Nat.zero_le _, Nat.le_refl _⟩⟩ ?_
  clear M; rintro (⟨i, k⟩) w ⟨M, ⟨hi, hk⟩⟩; dsimp only at M hi hk ⊢
  refine W.sub [(0, _), (2, _), (7, _), (10, _), (11, _), (12, _)] (.cons rfl (.cons rfl (.cons rfl (.cons rfl (.cons rfl (.cons rfl .nil)))))) ?_
  refine W.seq ?_
  refine W.region ?_
  refine WL.lss rfl rfl rfl ?_
  refine WL.nil ?_
  refine WX.next ?_
  refine W.sub [(0, _), (2, _), (7, _), (10, _), (11, _), (12, _), (13, _)] (.cons rfl (.cons rfl (.cons rfl (.cons rfl (.cons rfl (.cons rfl (.cons rfl .nil))))))) ?_
  refine W.seq ?_
  refine W.ite rfl (fun c0 => ?_) (fun c0 => ?_)
  · have hil : i < live.length := by omega
    obtain ⟨h2, h3⟩ := hlv _ (el_mem hil)
    obtain ⟨e, he⟩ : ∃ e : Nat, el live i = (e : Int) := ⟨(el live i).toNat, by omega⟩
    have he2 : e < sites.length := by omega
    refine W.skip ?_
    refine WX.next ?_
    refine W.seq ?_
    refine W.block ?_
    refine W.seq ?_
    refine W.region ?_
    refine WL.idxA Try.underlying22 Try.sizeOf3 rfl rfl (RdL.isSome (E := intE) (by first | with_reducible assumption | with_reducible exact RdL.mem (by with_reducible assumption) M | exact M.rdL (by first | ((repeat (first | with_reducible exact Has.here | with_reducible refine Has.there ?_)); done) | (repeat (first | exact Has.here | refine Has.there ?_))) | exact RdLH.at (by assumption) (M.sel (by first | ((repeat (first | with_reducible exact Sel.refl | with_reducible exact Sel.nil | with_reducible exact Del.here | with_reducible apply Del.there | with_reducible apply Sel.cons | with_reducible apply Sel.drop)); done) | (repeat (first | exact Sel.refl | exact Sel.nil | exact Del.here | apply Del.there | apply Sel.cons | apply Sel.drop)))) | exact RdL.nil _ _ _) (by omega)) (by omega) (by omega) (by first | exact rfl | exact (Int.toNat_of_nonneg (by omega)).symm) rfl ?_
    refine WL.loadE0 (E := intE) Try.isAgg3 rfl (by first | with_reducible assumption | with_reducible exact RdL.mem (by with_reducible assumption) M | exact M.rdL (by first | ((repeat (first | with_reducible exact Has.here | with_reducible refine Has.there ?_)); done) | (repeat (first | exact Has.here | refine Has.there ?_))) | exact RdLH.at (by assumption) (M.sel (by first | ((repeat (first | with_reducible exact Sel.refl | with_reducible exact Sel.nil | with_reducible exact Del.here | with_reducible apply Del.there | with_reducible apply Sel.cons | with_reducible apply Sel.drop)); done) | (repeat (first | exact Sel.refl | exact Sel.nil | exact Del.here | apply Del.there | apply Sel.cons | apply Sel.drop)))) | exact RdL.nil _ _ _) (by omega) rfl rfl ?_
    refine WL.assign rfl rfl ?_
    refine WL.nil ?_
    refine WX.next ?_
    refine W.sub [(0, _), (2, _), (7, _), (9, _), (10, _), (11, _), (12, _)] (.cons rfl (.cons rfl (.cons rfl (.cons rfl (.cons rfl (.cons rfl (.cons rfl .nil))))))) ?_
    refine W.seq ?_
    refine W.drawM ([]) (by kernel_rfl) (fun j => [3, 5, 6, 10, 12, 13].contains j) M (by first | ((repeat (first | with_reducible exact Sel.refl | with_reducible exact Sel.nil | with_reducible exact Del.here | with_reducible apply Del.there | with_reducible apply Sel.cons | with_reducible apply Sel.drop)); done) | (repeat (first | exact Sel.refl | exact Sel.nil | exact Del.here | apply Del.there | apply Sel.cons | apply Sel.drop))) ?_
    clear M; intro M
    apply DG.pure_ [0, 1, 2, 4, 7, 8, 9, 11] 7 rfl (by kernel_rfl) (by kernel_rfl)
    · intro w
      refine WL.move rfl rfl ?_
      refine WL.nilCheck rfl rfl ?_
      refine WL.fieldR (off := 0) Try.underlying51 rfl rfl Try.sizeOf22 rfl rfl rfl ?_
      refine WL.move rfl rfl ?_
      refine WL.move rfl rfl ?_
      refine WL.nilCheck rfl rfl ?_
      refine WL.fieldR (off := 0) Try.underlying51 rfl rfl Try.sizeOf22 rfl rfl rfl ?_
      refine WL.move rfl rfl ?_
      exact Chain.end_ rfl
    apply DG.take [3, 5, 6, 10, 12, 13, 14] 0 rfl (by kernel_rfl) (by kernel_rfl) (M.sel (by first | ((repeat (first | with_reducible exact Sel.refl | with_reducible exact Sel.nil | with_reducible exact Del.here | with_reducible apply Del.there | with_reducible apply Sel.cons | with_reducible apply Sel.drop)); done) | (repeat (first | exact Sel.refl | exact Sel.nil | exact Del.here | apply Del.there | apply Sel.cons | apply Sel.drop))))
    · intro w M
      refine WL.load Try.isAgg22 rfl ((Rd.mem hs M).one) rfl ?_
      refine WL.idxA Try.underlying22 Try.sizeOf3 rfl rfl (RdL.isSome (E := intE) (by first | with_reducible assumption | with_reducible exact RdL.mem (by with_reducible assumption) M | exact M.rdL (by first | ((repeat (first | with_reducible exact Has.here | with_reducible refine Has.there ?_)); done) | (repeat (first | exact Has.here | refine Has.there ?_))) | exact RdLH.at (by assumption) (M.sel (by first | ((repeat (first | with_reducible exact Sel.refl | with_reducible exact Sel.nil | with_reducible exact Del.here | with_reducible apply Del.there | with_reducible apply Sel.cons | with_reducible apply Sel.drop)); done) | (repeat (first | exact Sel.refl | exact Sel.nil | exact Del.here | apply Del.there | apply Sel.cons | apply Sel.drop)))) | exact RdL.nil _ _ _) (by omega)) (by omega) (by omega) he rfl ?_
      refine WL.loadE0 (E := intE) Try.isAgg3 rfl (by first | with_reducible assumption | with_reducible exact RdL.mem (by with_reducible assumption) M | exact M.rdL (by first | ((repeat (first | with_reducible exact Has.here | with_reducible refine Has.there ?_)); done) | (repeat (first | exact Has.here | refine Has.there ?_))) | exact RdLH.at (by assumption) (M.sel (by first | ((repeat (first | with_reducible exact Sel.refl | with_reducible exact Sel.nil | with_reducible exact Del.here | with_reducible apply Del.there | with_reducible apply Sel.cons | with_reducible apply Sel.drop)); done) | (repeat (first | exact Sel.refl | exact Sel.nil | exact Del.here | apply Del.there | apply Sel.cons | apply Sel.drop)))) | exact RdL.nil _ _ _) (by omega) rfl rfl ?_
      refine WL.load Try.isAgg22 rfl ((Rd.mem hs M).one) rfl ?_
      refine WL.idxA Try.underlying22 Try.sizeOf3 rfl rfl (RdL.isSome (E := intE) (by first | with_reducible assumption | with_reducible exact RdL.mem (by with_reducible assumption) M | exact M.rdL (by first | ((repeat (first | with_reducible exact Has.here | with_reducible refine Has.there ?_)); done) | (repeat (first | exact Has.here | refine Has.there ?_))) | exact RdLH.at (by assumption) (M.sel (by first | ((repeat (first | with_reducible exact Sel.refl | with_reducible exact Sel.nil | with_reducible exact Del.here | with_reducible apply Del.there | with_reducible apply Sel.cons | with_reducible apply Sel.drop)); done) | (repeat (first | exact Sel.refl | exact Sel.nil | exact Del.here | apply Del.there | apply Sel.cons | apply Sel.drop)))) | exact RdL.nil _ _ _) (by omega)) (by omega) (by omega) (by first | exact rfl | exact (Int.toNat_of_nonneg (by omega)).symm) rfl ?_
      refine WL.loadE0 (E := intE) Try.isAgg3 rfl (by first | with_reducible assumption | with_reducible exact RdL.mem (by with_reducible assumption) M | exact M.rdL (by first | ((repeat (first | with_reducible exact Has.here | with_reducible refine Has.there ?_)); done) | (repeat (first | exact Has.here | refine Has.there ?_))) | exact RdLH.at (by assumption) (M.sel (by first | ((repeat (first | with_reducible exact Sel.refl | with_reducible exact Sel.nil | with_reducible exact Del.here | with_reducible apply Del.there | with_reducible apply Sel.cons | with_reducible apply Sel.drop)); done) | (repeat (first | exact Sel.refl | exact Sel.nil | exact Del.here | apply Del.there | apply Sel.cons | apply Sel.drop)))) | exact RdL.nil _ _ _) (by omega) rfl rfl ?_
      refine WL.eqI rfl rfl rfl ?_
      exact Chain.end_ rfl
    refine DG.end_ (by kernel_rfl) ?_
    refine WX.next ?_
    refine W.sub [(0, _), (2, _), (7, _), (10, _), (11, _), (12, _), (30, _)] (.cons rfl (.cons rfl (.cons rfl (.cons rfl (.cons rfl (.cons rfl (.cons rfl .nil))))))) ?_
    refine W.ite rfl (fun c1 => ?_) (fun c1 => ?_)
    · refine W.region ?_
      refine WL.move rfl rfl ?_
      refine WL.add rfl rfl (by first | exact wI64 (by omega) | rfl) rfl ?_
      refine WL.assign rfl rfl ?_
      refine WL.nil ?_
      refine WX.blockNormal ?_
      refine WX.next ?_
      refine W.sub [(0, _), (2, _), (7, _), (10, _), (11, _), (12, _)] (.cons rfl (.cons rfl (.cons rfl (.cons rfl (.cons rfl (.cons rfl .nil)))))) ?_
      refine W.region ?_
      refine WL.add rfl rfl (by first | exact wI64 (by omega) | rfl) rfl ?_
      refine WL.move rfl rfl ?_
      refine WL.nil ?_
      refine WX.round ((i + 1, k + 1)) (by (repeat' (first | exact envSub.nil | refine envSub.cons ?_ ?_)) <;> first | rfl | (refine congrArg some ?_; refine congrArg (Value.int _) ?_; first | omega | (dsimp only; omega)) | (simp; done) | (refine congrArg some ?_; dsimp only; congr 1; omega) | (simp; omega)) ⟨M.sel (by first | ((repeat (first | with_reducible exact Sel.refl | with_reducible exact Sel.nil | with_reducible exact Del.here | with_reducible apply Del.there | with_reducible apply Sel.cons | with_reducible apply Sel.drop)); done) | (repeat (first | exact Sel.refl | exact Sel.nil | exact Del.here | apply Del.there | apply Sel.cons | apply Sel.drop))), ⟨by dsimp only; omega, by dsimp only; omega⟩⟩ (by first | omega | (dsimp only; omega))
    · refine W.skip ?_
      refine WX.blockNormal ?_
      refine WX.next ?_
      refine W.region ?_
      refine WL.add rfl rfl (by first | exact wI64 (by omega) | rfl) rfl ?_
      refine WL.move rfl rfl ?_
      refine WL.nil ?_
      refine WX.round ((i + 1, k)) (by (repeat' (first | exact envSub.nil | refine envSub.cons ?_ ?_)) <;> first | rfl | (refine congrArg some ?_; refine congrArg (Value.int _) ?_; first | omega | (dsimp only; omega)) | (simp; done) | (refine congrArg some ?_; dsimp only; congr 1; omega) | (simp; omega)) ⟨M.sel (by first | ((repeat (first | with_reducible exact Sel.refl | with_reducible exact Sel.nil | with_reducible exact Del.here | with_reducible apply Del.there | with_reducible apply Sel.cons | with_reducible apply Sel.drop)); done) | (repeat (first | exact Sel.refl | exact Sel.nil | exact Del.here | apply Del.there | apply Sel.cons | apply Sel.drop))), ⟨by dsimp only; omega, by dsimp only; omega⟩⟩ (by first | omega | (dsimp only; omega))
  · refine W.exit ?_
    refine WX.thenExit ?_
    refine WX.thenExit ?_
    refine WX.blockHere ?_
    refine WX.next ?_
    refine W.seq ?_
    refine W.region ?_
    refine WL.move rfl rfl ?_
    refine WL.assign rfl rfl ?_
    refine WL.nil ?_
    refine WX.next ?_
    refine W.sub [(6, _)] (.cons rfl .nil) ?_
    refine W.ret ?_
    refine WX.ret1 rfl rfl ?_
    exact ⟨⟨_, rfl⟩, M⟩
set_option maxRecDepth 10000 in
theorem target1_ok {g gw gl : Nat} {As Al Ad : Option Addr} {cs cl cd : Nat} {sites live load : List Int} (hs1 : sites.length ≤ 12) (hlv : ∀ x ∈ live, 0 ≤ x ∧ x < (sites.length : Int)) (hll : live.length ≤ 1000) (hld : load.length = sites.length) {a b : Int} (ha0 : 0 ≤ a) (ha1 : a < (sites.length : Int)) (hb0 : 0 ≤ b) (hb1 : b < (sites.length : Int)) {w0 : World}
    (hv : Rd w0 (some ⟨gw, 0, none⟩) 1 1 1 [.pointer (some ⟨g, 0, none⟩)]) (hv2 : Rd w0 (some ⟨gl, 0, none⟩) 1 1 1 [.slice Al live.length cl]) (hs : Rd w0 (some ⟨g, 0, none⟩) 1 1 1 [.slice As sites.length cs]) (hd : Rd w0 (some ⟨g, 2, none⟩) 1 1 1 [.slice Ad sites.length cd])
    (hS : RdL w0 intE As cs sites) (hL : RdL w0 intE Al cl live) (hD : RdL w0 intE Ad cd load) :
    Fn Try.prog 29 [.int .i64 a, .int .i64 b, .pointer (some ⟨gw, 0, none⟩), .pointer (some ⟨gl, 0, none⟩)] w0 fun v w' => (∃ z : Int, v = .int .i64 z) ∧ Mem w0 w' [] := by
  have M := Mem.refl w0
  obtain ⟨w, hw⟩ : ∃ w, w = w0 := ⟨w0, rfl⟩
  obtain ⟨x, rfl⟩ : ∃ k : Nat, a = (k : Int) := ⟨a.toNat, by omega⟩
  obtain ⟨y, rfl⟩ : ∃ k : Nat, b = (k : Int) := ⟨b.toNat, by omega⟩
  refine Fn.enter Try.func29 rfl Try.ntmps29 rfl ?_
  refine W.sub [(0, _), (1, _), (2, _), (3, _)] (.cons rfl (.cons rfl (.cons rfl (.cons rfl .nil)))) ?_
  refine W.seq ?_
  refine W.region ?_
  refine WL.assign rfl rfl ?_
  refine WL.nil ?_
  refine WX.next ?_
  refine W.sub [(0, _), (1, _), (2, _), (3, _)] (.cons rfl (.cons rfl (.cons rfl (.cons rfl .nil)))) ?_
  refine W.seq ?_
  refine W.drawM ([]) (by kernel_rfl) (fun j => [0, 1, 3, 4, 5, 7, 8, 9, 10, 11, 12, 14, 15, 16, 17, 18, 19, 21, 22].contains j) M (by first | ((repeat (first | with_reducible exact Sel.refl | with_reducible exact Sel.nil | with_reducible exact Del.here | with_reducible apply Del.there | with_reducible apply Sel.cons | with_reducible apply Sel.drop)); done) | (repeat (first | exact Sel.refl | exact Sel.nil | exact Del.here | apply Del.there | apply Sel.cons | apply Sel.drop))) ?_
  clear M; intro M
  apply DG.pure_ [2, 6, 13, 20, 24, 25] 24 rfl (by kernel_rfl) (by kernel_rfl)
  · intro w
    refine WL.move rfl rfl ?_
    refine WL.move rfl rfl ?_
    refine WL.move rfl rfl ?_
    refine WL.move rfl rfl ?_
    refine WL.move rfl rfl ?_
    refine WL.move rfl rfl ?_
    exact Chain.end_ rfl
  apply DG.take [0, 1, 4, 5, 9, 10, 11, 12, 14, 15, 16, 17, 18, 19, 21, 22] 8 rfl (by kernel_rfl) (by kernel_rfl) (M.sel (by first | ((repeat (first | with_reducible exact Sel.refl | with_reducible exact Sel.nil | with_reducible exact Del.here | with_reducible apply Del.there | with_reducible apply Sel.cons | with_reducible apply Sel.drop)); done) | (repeat (first | exact Sel.refl | exact Sel.nil | exact Del.here | apply Del.there | apply Sel.cons | apply Sel.drop))))
  · intro w M
    refine WL.load Try.isAgg45 rfl ((Rd.mem hv M).one) rfl ?_
    refine WL.load Try.isAgg22 rfl ((Rd.mem hv2 M).one) rfl ?_
    refine WL.load Try.isAgg45 rfl ((Rd.mem hv M).one) rfl ?_
    refine WL.load Try.isAgg22 rfl ((Rd.mem hv2 M).one) rfl ?_
    refine WL.load Try.isAgg45 rfl ((Rd.mem hv M).one) rfl ?_
    refine WL.nilCheck rfl rfl ?_
    refine WL.fieldR (off := 2) Try.underlying51 rfl rfl Try.sizeOf22 rfl rfl rfl ?_
    refine WL.load Try.isAgg22 rfl ((Rd.mem hd M).one) rfl ?_
    refine WL.idxA Try.underlying22 Try.sizeOf3 rfl rfl (RdL.isSome (E := intE) (by first | with_reducible assumption | with_reducible exact RdL.mem (by with_reducible assumption) M | exact M.rdL (by first | ((repeat (first | with_reducible exact Has.here | with_reducible refine Has.there ?_)); done) | (repeat (first | exact Has.here | refine Has.there ?_))) | exact RdLH.at (by assumption) (M.sel (by first | ((repeat (first | with_reducible exact Sel.refl | with_reducible exact Sel.nil | with_reducible exact Del.here | with_reducible apply Del.there | with_reducible apply Sel.cons | with_reducible apply Sel.drop)); done) | (repeat (first | exact Sel.refl | exact Sel.nil | exact Del.here | apply Del.there | apply Sel.cons | apply Sel.drop)))) | exact RdL.nil _ _ _) (by omega)) (by omega) (by omega) (by first | exact rfl | exact (Int.toNat_of_nonneg (by omega)).symm) rfl ?_
    refine WL.loadE0 (E := intE) Try.isAgg3 rfl (by first | with_reducible assumption | with_reducible exact RdL.mem (by with_reducible assumption) M | exact M.rdL (by first | ((repeat (first | with_reducible exact Has.here | with_reducible refine Has.there ?_)); done) | (repeat (first | exact Has.here | refine Has.there ?_))) | exact RdLH.at (by assumption) (M.sel (by first | ((repeat (first | with_reducible exact Sel.refl | with_reducible exact Sel.nil | with_reducible exact Del.here | with_reducible apply Del.there | with_reducible apply Sel.cons | with_reducible apply Sel.drop)); done) | (repeat (first | exact Sel.refl | exact Sel.nil | exact Del.here | apply Del.there | apply Sel.cons | apply Sel.drop)))) | exact RdL.nil _ _ _) (by omega) rfl rfl ?_
    refine WL.load Try.isAgg45 rfl ((Rd.mem hv M).one) rfl ?_
    refine WL.nilCheck rfl rfl ?_
    refine WL.fieldR (off := 2) Try.underlying51 rfl rfl Try.sizeOf22 rfl rfl rfl ?_
    refine WL.load Try.isAgg22 rfl ((Rd.mem hd M).one) rfl ?_
    refine WL.idxA Try.underlying22 Try.sizeOf3 rfl rfl (RdL.isSome (E := intE) (by first | with_reducible assumption | with_reducible exact RdL.mem (by with_reducible assumption) M | exact M.rdL (by first | ((repeat (first | with_reducible exact Has.here | with_reducible refine Has.there ?_)); done) | (repeat (first | exact Has.here | refine Has.there ?_))) | exact RdLH.at (by assumption) (M.sel (by first | ((repeat (first | with_reducible exact Sel.refl | with_reducible exact Sel.nil | with_reducible exact Del.here | with_reducible apply Del.there | with_reducible apply Sel.cons | with_reducible apply Sel.drop)); done) | (repeat (first | exact Sel.refl | exact Sel.nil | exact Del.here | apply Del.there | apply Sel.cons | apply Sel.drop)))) | exact RdL.nil _ _ _) (by omega)) (by omega) (by omega) (by first | exact rfl | exact (Int.toNat_of_nonneg (by omega)).symm) rfl ?_
    refine WL.loadE0 (E := intE) Try.isAgg3 rfl (by first | with_reducible assumption | with_reducible exact RdL.mem (by with_reducible assumption) M | exact M.rdL (by first | ((repeat (first | with_reducible exact Has.here | with_reducible refine Has.there ?_)); done) | (repeat (first | exact Has.here | refine Has.there ?_))) | exact RdLH.at (by assumption) (M.sel (by first | ((repeat (first | with_reducible exact Sel.refl | with_reducible exact Sel.nil | with_reducible exact Del.here | with_reducible apply Del.there | with_reducible apply Sel.cons | with_reducible apply Sel.drop)); done) | (repeat (first | exact Sel.refl | exact Sel.nil | exact Del.here | apply Del.there | apply Sel.cons | apply Sel.drop)))) | exact RdL.nil _ _ _) (by omega) rfl rfl ?_
    exact Chain.end_ rfl
  refine DG.step 3 7 rfl (by kernel_rfl) ?_
  refine WL.call Try.call32 rfl (on_ok hs1 hlv hll ha0 ha1 (Rd.mem hs M) (hS.mem M) (hL.mem M)) rfl ?_
  rintro _ w ⟨⟨z1, rfl⟩, m⟩
  replace M := M.call0 m; clear m
  refine DG.go (G := fun j => [0, 1, 3, 4, 5, 7, 8, 9, 10, 11, 12, 14, 15, 16, 17, 18, 19, 21, 22].contains j) (i := 3) (f' := 7) (done := [2, 6, 13, 20, 24, 25, 0, 1, 4, 5, 9, 10, 11, 12, 14, 15, 16, 17, 18, 19, 21, 22]) (fun _ => M.sel (by first | ((repeat (first | with_reducible exact Sel.refl | with_reducible exact Sel.nil | with_reducible exact Del.here | with_reducible apply Del.there | with_reducible apply Sel.cons | with_reducible apply Sel.drop)); done) | (repeat (first | exact Sel.refl | exact Sel.nil | exact Del.here | apply Del.there | apply Sel.cons | apply Sel.drop)))) ?_
  refine DG.step 7 6 rfl (by kernel_rfl) ?_
  refine WL.call Try.call32 rfl (on_ok hs1 hlv hll hb0 hb1 (Rd.mem hs M) (hS.mem M) (hL.mem M)) rfl ?_
  rintro _ w ⟨⟨z2, rfl⟩, m⟩
  replace M := M.call0 m; clear m
  refine DG.go (G := fun j => [0, 1, 3, 4, 5, 7, 8, 9, 10, 11, 12, 14, 15, 16, 17, 18, 19, 21, 22].contains j) (i := 7) (f' := 6) (done := [2, 6, 13, 20, 24, 25, 0, 1, 4, 5, 9, 10, 11, 12, 14, 15, 16, 17, 18, 19, 21, 22, 3]) (fun _ => M.sel (by first | ((repeat (first | with_reducible exact Sel.refl | with_reducible exact Sel.nil | with_reducible exact Del.here | with_reducible apply Del.there | with_reducible apply Sel.cons | with_reducible apply Sel.drop)); done) | (repeat (first | exact Sel.refl | exact Sel.nil | exact Del.here | apply Del.there | apply Sel.cons | apply Sel.drop)))) ?_
  refine DG.step 8 5 rfl (by kernel_rfl) ?_
  refine WL.call Try.call31 rfl (Compare_ok _ _ _) rfl ?_
  rintro _ _ ⟨⟨z3, rfl⟩, rfl⟩
  refine DG.go (G := fun j => [0, 1, 3, 4, 5, 7, 8, 9, 10, 11, 12, 14, 15, 16, 17, 18, 19, 21, 22].contains j) (i := 8) (f' := 5) (done := [2, 6, 13, 20, 24, 25, 0, 1, 4, 5, 9, 10, 11, 12, 14, 15, 16, 17, 18, 19, 21, 22, 3, 7]) (fun _ => M.sel (by first | ((repeat (first | with_reducible exact Sel.refl | with_reducible exact Sel.nil | with_reducible exact Del.here | with_reducible apply Del.there | with_reducible apply Sel.cons | with_reducible apply Sel.drop)); done) | (repeat (first | exact Sel.refl | exact Sel.nil | exact Del.here | apply Del.there | apply Sel.cons | apply Sel.drop)))) ?_
  refine DG.step 23 4 rfl (by kernel_rfl) ?_
  refine WL.call Try.call31 rfl (Compare_ok _ _ _) rfl ?_
  rintro _ _ ⟨⟨z4, rfl⟩, rfl⟩
  refine DG.go (G := fun j => [0, 1, 3, 4, 5, 7, 8, 9, 10, 11, 12, 14, 15, 16, 17, 18, 19, 21, 22].contains j) (i := 23) (f' := 4) (done := [2, 6, 13, 20, 24, 25, 0, 1, 4, 5, 9, 10, 11, 12, 14, 15, 16, 17, 18, 19, 21, 22, 3, 7, 8]) (fun h => by cases h) ?_
  refine DG.step 26 3 rfl (by kernel_rfl) ?_
  refine WL.call Try.call31 rfl (Compare_ok _ _ _) rfl ?_
  rintro _ _ ⟨⟨z5, rfl⟩, rfl⟩
  refine DG.go (G := fun j => [0, 1, 3, 4, 5, 7, 8, 9, 10, 11, 12, 14, 15, 16, 17, 18, 19, 21, 22].contains j) (i := 26) (f' := 3) (done := [2, 6, 13, 20, 24, 25, 0, 1, 4, 5, 9, 10, 11, 12, 14, 15, 16, 17, 18, 19, 21, 22, 3, 7, 8, 23]) (fun h => by cases h) ?_
  refine DG.step 27 2 rfl (by kernel_rfl) ?_
  refine WL.buildL (E := intE) (l := [z3, z4, z5]) Try.elem3 M rfl rfl rfl rfl rfl rfl ?_
  intro g1_27 w M
  refine DG.go (G := fun j => [0, 1, 3, 4, 5, 7, 8, 9, 10, 11, 12, 14, 15, 16, 17, 18, 19, 21, 22].contains j) (i := 27) (f' := 2) (done := [2, 6, 13, 20, 24, 25, 0, 1, 4, 5, 9, 10, 11, 12, 14, 15, 16, 17, 18, 19, 21, 22, 3, 7, 8, 23, 26]) (fun h => by cases h) ?_
  refine DG.step 28 1 rfl (by kernel_rfl) ?_
  refine WL.call Try.call30 rfl (Or_ok (l := [z3, z4, z5]) (M.rdL (by first | ((repeat (first | with_reducible exact Has.here | with_reducible refine Has.there ?_)); done) | (repeat (first | exact Has.here | refine Has.there ?_)))) (by simp)) rfl ?_
  rintro _ w ⟨⟨z6, rfl⟩, m⟩
  replace M := M.call0 m; clear m
  refine DG.go (G := fun j => [0, 1, 3, 4, 5, 7, 8, 9, 10, 11, 12, 14, 15, 16, 17, 18, 19, 21, 22].contains j) (i := 28) (f' := 1) (done := [2, 6, 13, 20, 24, 25, 0, 1, 4, 5, 9, 10, 11, 12, 14, 15, 16, 17, 18, 19, 21, 22, 3, 7, 8, 23, 26, 27]) (fun h => by cases h) ?_
  apply DG.pure_ [29] 0 rfl (by kernel_rfl) (by kernel_rfl)
  · intro w
    refine WL.assign rfl rfl ?_
    exact Chain.end_ rfl
  refine DG.end_ (by kernel_rfl) ?_
  refine WX.next ?_
  refine W.sub [(6, _)] (.cons rfl .nil) ?_
  refine W.ret ?_
  refine WX.ret1 rfl rfl ?_
  exact ⟨⟨_, rfl⟩, M.sel (by first | ((repeat (first | with_reducible exact Sel.refl | with_reducible exact Sel.nil | with_reducible exact Del.here | with_reducible apply Del.there | with_reducible apply Sel.cons | with_reducible apply Sel.drop)); done) | (repeat (first | exact Sel.refl | exact Sel.nil | exact Del.here | apply Del.there | apply Sel.cons | apply Sel.drop)))⟩
set_option maxHeartbeats 1000000 in
theorem target_ok {g up : Nat} (hup : up < 4294967296) {As Ah Al Ad : Option Addr} {cs ch cl cd : Nat} {sites has live load : List Int} (hs1 : sites.length ≤ 12) (hlv : ∀ x ∈ live, 0 ≤ x ∧ x < (sites.length : Int)) (hll : live.length ≤ 1000) (hhl : has.length ≤ 1000) (hld : load.length = sites.length) {w0 : World}
    (hs : Rd w0 (some ⟨g, 0, none⟩) 1 1 1 [.slice As sites.length cs]) (hu : Rd w0 (some ⟨g, 1, none⟩) 1 1 1 [.int .u32 (up : Int)]) (hd : Rd w0 (some ⟨g, 2, none⟩) 1 1 1 [.slice Ad sites.length cd])
    (hS : RdL w0 intE As cs sites) (hH : RdL w0 intE Ah ch has) (hL : RdL w0 intE Al cl live) (hD : RdL w0 intE Ad cd load) :
    Fn Try.prog 14 [.pointer (some ⟨g, 0, none⟩), .slice Ah has.length ch, .slice Al live.length cl] w0 fun v w' => (∃ t : Int, v = .int .i64 t ∧
      ((t = -1 ∧ ∀ n : Int, 0 ≤ n → n < (sites.length : Nat) → hUp up n = true → n ∈ has) ∨ (0 ≤ t ∧ t < (sites.length : Nat) ∧ hUp up t = true ∧ t ∉ has))) ∧ Mem w0 w' [] := by
  have M := Mem.refl w0
  obtain ⟨w, hw⟩ : ∃ w, w = w0 := ⟨w0, rfl⟩
  refine Fn.enter Try.func14 rfl Try.ntmps14 rfl ?_
  refine W.sub [(0, _), (1, _), (2, _)] (.cons rfl (.cons rfl (.cons rfl .nil))) ?_
  refine W.seq ?_
  refine W.region ?_
  refine WL.box rfl M rfl ?_
  intro g0_0 w M
  try simp only [Value.cells] at M
  try simp only [List.toList_toArray] at M
  refine WL.box rfl M rfl ?_
  intro g0_1 w M
  try simp only [Value.cells] at M
  try simp only [List.toList_toArray] at M
  refine WL.assign rfl rfl ?_
  refine WL.nil ?_
  refine WX.next ?_
  refine W.sub [(1, _), (3, _), (5, _)] (.cons rfl (.cons rfl (.cons rfl .nil))) ?_
  refine W.seq ?_
  refine W.region ?_
  refine WL.assign rfl rfl ?_
  refine WL.nil ?_
  refine WX.next ?_
  refine W.sub [(1, _), (3, _), (5, _), (7, _)] (.cons rfl (.cons rfl (.cons rfl (.cons rfl .nil)))) ?_
  refine W.seq ?_
  refine W.seq ?_
  refine W.region ?_
  refine WL.loadR Try.isAgg45 rfl M (by first | ((repeat (first | with_reducible exact Has.here | with_reducible refine Has.there ?_)); done) | (repeat (first | exact Has.here | refine Has.there ?_))) rfl rfl ?_
  refine WL.nilCheck rfl rfl ?_
  refine WL.fieldR (off := 0) Try.underlying51 rfl rfl Try.sizeOf22 rfl rfl rfl ?_
  refine WL.load Try.isAgg22 rfl ((Rd.mem hs M).one) rfl ?_
  refine WL.len Try.underlying22 rfl rfl ?_
  refine WL.move rfl rfl ?_
  refine WL.nil ?_
  refine WX.next ?_
  refine W.sub [(1, _), (3, _), (5, _), (7, _), (13, _), (14, _)] (.cons rfl (.cons rfl (.cons rfl (.cons rfl (.cons rfl (.cons rfl .nil)))))) ?_
  refine W.block ?_
  refine W.loop (ι := Nat × (Option Addr × Nat × List Int)) (fun z => [(1, .slice Ah has.length ch), (3, .pointer (some ⟨g0_0, 0, none⟩)), (5, .pointer (some ⟨g0_1, 0, none⟩)), (7, .slice z.2.1 z.2.2.2.length z.2.2.1), (13, .int .i64 (sites.length : Int)), (14, .int .i64 (z.1 : Int))]) (fun zz w => Mem w0 w ((fun z => [Asr.lst intE z.2.1 z.2.2.1 z.2.2.2, Asr.row g0_0 45 [.pointer (some ⟨g, 0, none⟩)], Asr.row g0_1 22 [.slice Al live.length cl]]) zz) ∧ (fun z => z.1 ≤ sites.length ∧ z.2.2.2.length ≤ z.1 ∧ (∀ t ∈ z.2.2.2, 0 ≤ t ∧ t < (sites.length : Int) ∧ hUp up t = true ∧ t ∉ has) ∧ (∀ k : Nat, k < z.1 → hUp up (k : Int) = true → (k : Int) ∈ has ∨ (k : Int) ∈ z.2.2.2)) zz) (fun z => sites.length - z.1) ((0, (none, 0, []))) (by (repeat' (first | exact envSub.nil | refine envSub.cons ?_ ?_)) <;> first | rfl | (refine congrArg some ?_; refine congrArg (Value.int _) ?_; first | omega | (dsimp only; omega)) | (simp; done) | (refine congrArg some ?_; dsimp only; congr 1; omega) | (simp; omega)) ⟨(Mem.nilOwn (M.sel (K := [Asr.row g0_0 45 [.pointer (some ⟨g, 0, none⟩)], Asr.row g0_1 22 [.slice Al live.length cl]]) (by first | ((repeat (first | with_reducible exact Sel.refl | with_reducible exact Sel.nil | with_reducible exact Del.here | with_reducible apply Del.there | with_reducible apply Sel.cons | with_reducible apply Sel.drop)); done) | (repeat (first | exact Sel.refl | exact Sel.nil | exact Del.here | apply Del.there | apply Sel.cons | apply Sel.drop)))) 3 1), ⟨Nat.zero_le _, Nat.le_refl _, fun t ht => (by cases ht), fun k hk => absurd hk (by dsimp only; omega)⟩⟩ ?_
  clear M; rintro (⟨i, A, c, fr⟩) w ⟨M, ⟨hi, hfl, hf, hk⟩⟩; dsimp only at M hi hfl hf hk ⊢
  refine W.sub [(1, _), (3, _), (5, _), (7, _), (13, _), (14, _)] (.cons rfl (.cons rfl (.cons rfl (.cons rfl (.cons rfl (.cons rfl .nil)))))) ?_
  refine W.seq ?_
  refine W.region ?_
  refine WL.lss rfl rfl rfl ?_
  refine WL.nil ?_
  refine WX.next ?_
  refine W.sub [(1, _), (3, _), (5, _), (7, _), (13, _), (14, _), (15, _)] (.cons rfl (.cons rfl (.cons rfl (.cons rfl (.cons rfl (.cons rfl (.cons rfl .nil))))))) ?_
  refine W.seq ?_
  refine W.ite rfl (fun c0 => ?_) (fun c0 => ?_)
  · refine W.skip ?_
    refine WX.next ?_
    refine W.seq ?_
    refine W.block ?_
    refine W.seq ?_
    refine W.region ?_
    refine WL.move rfl rfl ?_
    refine WL.assign rfl rfl ?_
    refine WL.nil ?_
    refine WX.next ?_
    refine W.sub [(1, _), (3, _), (5, _), (7, _), (8, _), (13, _), (14, _)] (.cons rfl (.cons rfl (.cons rfl (.cons rfl (.cons rfl (.cons rfl (.cons rfl .nil))))))) ?_
    refine W.seq ?_
    refine W.region ?_
    refine WL.loadR Try.isAgg45 rfl M (by first | ((repeat (first | with_reducible exact Has.here | with_reducible refine Has.there ?_)); done) | (repeat (first | exact Has.here | refine Has.there ?_))) rfl rfl ?_
    refine WL.move rfl rfl ?_
    refine WL.call Try.call27 rfl (isW_ok hup (n := (i : Int)) (by omega) (by omega) (Rd.mem hu M)) rfl ?_
    rintro _ _ ⟨rfl, rfl⟩
    refine WL.moveIfB rfl rfl (fun c1 => ?_) (fun c1 => ?_)
    · refine WL.on rfl rfl ?_
      refine WL.move rfl rfl ?_
      refine WL.on rfl rfl ?_
      refine WL.move rfl rfl ?_
      refine WL.on rfl rfl ?_
      refine WL.call Try.call21 rfl (sContains_ok (hH.mem M) (i : Int) (by omega)) rfl ?_
      rintro _ w ⟨rfl, m⟩
      replace M := M.call0 m; clear m
      refine WL.on rfl rfl ?_
      refine WL.notP rfl rfl ?_
      refine WL.pickT rfl rfl rfl ?_
      refine WL.nil ?_
      refine WX.next ?_
      refine W.sub [(1, _), (3, _), (5, _), (7, _), (8, _), (13, _), (14, _), (25, _)] (.cons rfl (.cons rfl (.cons rfl (.cons rfl (.cons rfl (.cons rfl (.cons rfl (.cons rfl .nil)))))))) ?_
      refine W.ite rfl (fun c2 => ?_) (fun c2 => ?_)
      · refine W.region ?_
        refine WL.move rfl rfl ?_
        refine WL.move rfl rfl ?_
        refine WL.buildL (E := intE) (l := [(i : Int)]) Try.elem3 M rfl rfl rfl rfl rfl rfl ?_
        intro g6_2 w M
        refine WL.appendL (E := intE) Try.elem3 rfl rfl M (by first | ((repeat (first | with_reducible exact Del.here | with_reducible apply Del.there)); done) | (repeat (first | exact Del.here | apply Del.there))) (by first | with_reducible assumption | with_reducible exact RdL.mem (by with_reducible assumption) M | exact M.rdL (by first | ((repeat (first | with_reducible exact Has.here | with_reducible refine Has.there ?_)); done) | (repeat (first | exact Has.here | refine Has.there ?_))) | exact RdLH.at (by assumption) (M.sel (by first | ((repeat (first | with_reducible exact Sel.refl | with_reducible exact Sel.nil | with_reducible exact Del.here | with_reducible apply Del.there | with_reducible apply Sel.cons | with_reducible apply Sel.drop)); done) | (repeat (first | exact Sel.refl | exact Sel.nil | exact Del.here | apply Del.there | apply Sel.cons | apply Sel.drop)))) | exact RdL.nil _ _ _) rfl rfl (by first | omega | (simp; done) | (simp; omega)) (by first | (simp only [maxLen]; omega) | (simp [maxLen]; done) | (simp [maxLen]; omega)) rfl ?_
        intro A6_3 cap6_3 w M
        refine WL.assign rfl rfl ?_
        refine WL.nil ?_
        refine WX.blockNormal ?_
        refine WX.next ?_
        refine W.sub [(1, _), (3, _), (5, _), (7, _), (13, _), (14, _)] (.cons rfl (.cons rfl (.cons rfl (.cons rfl (.cons rfl (.cons rfl .nil)))))) ?_
        refine W.region ?_
        refine WL.add rfl rfl (by first | exact wI64 (by omega) | rfl) rfl ?_
        refine WL.move rfl rfl ?_
        refine WL.nil ?_
        skip
        have q : ∀ t ∈ fr ++ [(i : Int)], 0 ≤ t ∧ t < (sites.length : Int) ∧ hUp up t = true ∧ t ∉ has := by
          intro t ht
          rcases List.mem_append.1 ht with ht | ht
          · exact hf t ht
          · obtain rfl : t = (i : Int) := by simpa using ht
            exact ⟨by omega, by omega, c1, c2⟩
        have q2 : ∀ k, k < i + 1 → hUp up (k : Int) = true → (k : Int) ∈ has ∨ (k : Int) ∈ fr ++ [(i : Int)] := by
          intro k hk1 hk2
          rcases Nat.lt_or_ge k i with h1 | h1
          · rcases hk k h1 hk2 with h | h
            · exact .inl h
            · exact .inr (List.mem_append_left _ h)
          · obtain rfl : k = i := by omega
            exact .inr (by simp)
        have q3 : (fr ++ [(i : Int)]).length ≤ i + 1 := by simp; omega
        refine WX.round ((i + 1, (A6_3, cap6_3, fr ++ [(i : Int)]))) (by (repeat' (first | exact envSub.nil | refine envSub.cons ?_ ?_)) <;> first | rfl | (refine congrArg some ?_; refine congrArg (Value.int _) ?_; first | omega | (dsimp only; omega)) | (simp; done) | (refine congrArg some ?_; dsimp only; congr 1; omega) | (simp; omega)) ⟨M.sel (by first | ((repeat (first | with_reducible exact Sel.refl | with_reducible exact Sel.nil | with_reducible exact Del.here | with_reducible apply Del.there | with_reducible apply Sel.cons | with_reducible apply Sel.drop)); done) | (repeat (first | exact Sel.refl | exact Sel.nil | exact Del.here | apply Del.there | apply Sel.cons | apply Sel.drop))), ⟨by dsimp only; omega, q3, q, q2⟩⟩ (by first | omega | (dsimp only; omega))
      · refine W.skip ?_
        refine WX.blockNormal ?_
        refine WX.next ?_
        refine W.region ?_
        refine WL.add rfl rfl (by first | exact wI64 (by omega) | rfl) rfl ?_
        refine WL.move rfl rfl ?_
        refine WL.nil ?_
        skip
        have q2 : ∀ k, k < i + 1 → hUp up (k : Int) = true → (k : Int) ∈ has ∨ (k : Int) ∈ fr := by
          intro k hk1 hk2
          rcases Nat.lt_or_ge k i with h1 | h1
          · exact hk k h1 hk2
          · obtain rfl : k = i := by omega
            exact .inl (by first | exact Classical.not_not.1 c2 | exact c2)
        refine WX.round ((i + 1, (A, c, fr))) (by (repeat' (first | exact envSub.nil | refine envSub.cons ?_ ?_)) <;> first | rfl | (refine congrArg some ?_; refine congrArg (Value.int _) ?_; first | omega | (dsimp only; omega)) | (simp; done) | (refine congrArg some ?_; dsimp only; congr 1; omega) | (simp; omega)) ⟨M.sel (by first | ((repeat (first | with_reducible exact Sel.refl | with_reducible exact Sel.nil | with_reducible exact Del.here | with_reducible apply Del.there | with_reducible apply Sel.cons | with_reducible apply Sel.drop)); done) | (repeat (first | exact Sel.refl | exact Sel.nil | exact Del.here | apply Del.there | apply Sel.cons | apply Sel.drop))), ⟨by dsimp only; omega, by dsimp only; omega, hf, q2⟩⟩ (by first | omega | (dsimp only; omega))
    · refine WL.off rfl rfl rfl rfl ?_
      refine WL.off rfl rfl rfl rfl ?_
      refine WL.off rfl rfl rfl rfl ?_
      refine WL.off rfl rfl rfl rfl ?_
      refine WL.pickF rfl rfl rfl ?_
      refine WL.nil ?_
      refine WX.next ?_
      refine W.sub [(1, _), (3, _), (5, _), (7, _), (8, _), (13, _), (14, _), (25, _)] (.cons rfl (.cons rfl (.cons rfl (.cons rfl (.cons rfl (.cons rfl (.cons rfl (.cons rfl .nil)))))))) ?_
      refine W.condF rfl ?_
      refine W.skip ?_
      refine WX.blockNormal ?_
      refine WX.next ?_
      refine W.region ?_
      refine WL.add rfl rfl (by first | exact wI64 (by omega) | rfl) rfl ?_
      refine WL.move rfl rfl ?_
      refine WL.nil ?_
      skip
      have q2 : ∀ k, k < i + 1 → hUp up (k : Int) = true → (k : Int) ∈ has ∨ (k : Int) ∈ fr := by
        intro k hk1 hk2
        rcases Nat.lt_or_ge k i with h1 | h1
        · exact hk k h1 hk2
        · obtain rfl : k = i := by omega
          rw [c1] at hk2
          cases hk2
      refine WX.round ((i + 1, (A, c, fr))) (by (repeat' (first | exact envSub.nil | refine envSub.cons ?_ ?_)) <;> first | rfl | (refine congrArg some ?_; refine congrArg (Value.int _) ?_; first | omega | (dsimp only; omega)) | (simp; done) | (refine congrArg some ?_; dsimp only; congr 1; omega) | (simp; omega)) ⟨M.sel (by first | ((repeat (first | with_reducible exact Sel.refl | with_reducible exact Sel.nil | with_reducible exact Del.here | with_reducible apply Del.there | with_reducible apply Sel.cons | with_reducible apply Sel.drop)); done) | (repeat (first | exact Sel.refl | exact Sel.nil | exact Del.here | apply Del.there | apply Sel.cons | apply Sel.drop))), ⟨by dsimp only; omega, by dsimp only; omega, hf, q2⟩⟩ (by first | omega | (dsimp only; omega))
  · refine W.exit ?_
    refine WX.thenExit ?_
    refine WX.thenExit ?_
    refine WX.blockHere ?_
    refine WX.next ?_
    refine W.seq ?_
    refine W.seq ?_
    refine W.region ?_
    refine WL.move rfl rfl ?_
    refine WL.len Try.underlying22 rfl rfl ?_
    refine WL.eqI rfl rfl rfl ?_
    refine WL.nil ?_
    refine WX.next ?_
    refine W.sub [(3, _), (5, _), (7, _), (33, _)] (.cons rfl (.cons rfl (.cons rfl (.cons rfl .nil)))) ?_
    refine W.ite rfl (fun c3 => ?_) (fun c3 => ?_)
    · refine W.seq ?_
      refine W.region ?_
      refine WL.assign rfl rfl ?_
      refine WL.nil ?_
      refine WX.next ?_
      refine W.sub [(6, _)] (.cons rfl .nil) ?_
      refine W.ret ?_
      refine WX.thenRet ?_
      refine WX.ret1 rfl rfl ?_
      have hfr : fr = [] := List.eq_nil_of_length_eq_zero (by omega)
      refine ⟨⟨_, rfl, .inl ⟨rfl, fun n h0 h1 h2 => ?_⟩⟩, M.sel (by first | ((repeat (first | with_reducible exact Sel.refl | with_reducible exact Sel.nil | with_reducible exact Del.here | with_reducible apply Del.there | with_reducible apply Sel.cons | with_reducible apply Sel.drop)); done) | (repeat (first | exact Sel.refl | exact Sel.nil | exact Del.here | apply Del.there | apply Sel.cons | apply Sel.drop)))⟩
      obtain ⟨k, rfl⟩ : ∃ k : Nat, n = (k : Int) := ⟨n.toNat, by omega⟩
      rcases hk k (by omega) h2 with h | h
      · exact h
      · rw [hfr] at h
        cases h
    · refine W.skip ?_
      refine WX.next ?_
      refine W.seq ?_
      refine W.region ?_
      refine WL.move rfl rfl ?_
      refine WL.makeFunc (vs := [.pointer (some ⟨g0_0, 0, none⟩), .pointer (some ⟨g0_1, 0, none⟩)]) rfl rfl ?_
      refine WL.call Try.call28 rfl (sMinF_ok (M.rdL (by first | ((repeat (first | with_reducible exact Has.here | with_reducible refine Has.there ?_)); done) | (repeat (first | exact Has.here | refine Has.there ?_)))) _ #[.pointer (some ⟨g0_0, 0, none⟩), .pointer (some ⟨g0_1, 0, none⟩)] target1_call (fun x hx y hy w' m => target1_ok hs1 hlv hll hld (hf x hx).1 (hf x hx).2.1 (hf y hy).1 (hf y hy).2.1 (rd_one (M.call0 m) (by first | ((repeat (first | with_reducible exact Has.here | with_reducible refine Has.there ?_)); done) | (repeat (first | exact Has.here | refine Has.there ?_))) 0 rfl) (rd_one (M.call0 m) (by first | ((repeat (first | with_reducible exact Has.here | with_reducible refine Has.there ?_)); done) | (repeat (first | exact Has.here | refine Has.there ?_))) 0 rfl) (Rd.mem hs (M.call0 m)) (Rd.mem hd (M.call0 m)) (hS.mem (M.call0 m)) (hL.mem (M.call0 m)) (hD.mem (M.call0 m))) (by intro e; rw [e] at c3; simp at c3) (by omega)) rfl ?_
      rintro _ w ⟨t, ht, rfl, m⟩
      replace M := M.call0 m; clear m
      refine WL.assign rfl rfl ?_
      refine WL.nil ?_
      refine WX.next ?_
      refine W.sub [(6, _)] (.cons rfl .nil) ?_
      refine W.ret ?_
      refine WX.ret1 rfl rfl ?_
      exact ⟨⟨t, rfl, .inr ⟨(hf t ht).1, (hf t ht).2.1, (hf t ht).2.2.1, (hf t ht).2.2.2⟩⟩, M.sel (by first | ((repeat (first | with_reducible exact Sel.refl | with_reducible exact Sel.nil | with_reducible exact Del.here | with_reducible apply Del.there | with_reducible apply Sel.cons | with_reducible apply Sel.drop)); done) | (repeat (first | exact Sel.refl | exact Sel.nil | exact Del.here | apply Del.there | apply Sel.cons | apply Sel.drop)))⟩
theorem source1_ok {g gw gt : Nat} {As : Option Addr} {cs : Nat} {sites : List Int} (hs1 : sites.length ≤ 12) {a b : Int} (ha0 : 0 ≤ a) (ha1 : a < (sites.length : Int)) (hb0 : 0 ≤ b) (hb1 : b < (sites.length : Int)) {w0 : World}
    (hv : Rd w0 (some ⟨gw, 0, none⟩) 1 1 1 [.pointer (some ⟨g, 0, none⟩)]) (ht : Rd w0 (some ⟨gt, 0, none⟩) 1 1 1 [.int .i64 b]) (hs : Rd w0 (some ⟨g, 0, none⟩) 1 1 1 [.slice As sites.length cs]) (hS : RdL w0 intE As cs sites) :
    Fn Try.prog 34 [.int .i64 a, .pointer (some ⟨gw, 0, none⟩), .pointer (some ⟨gt, 0, none⟩)] w0 fun v w' => v = .bool (decide (el sites a.toNat = el sites b.toNat)) ∧ Mem w0 w' [] := by
  have M := Mem.refl w0
  obtain ⟨w, hw⟩ : ∃ w, w = w0 := ⟨w0, rfl⟩
  obtain ⟨x, rfl⟩ : ∃ k : Nat, a = (k : Int) := ⟨a.toNat, by omega⟩
  obtain ⟨y, rfl⟩ : ∃ k : Nat, b = (k : Int) := ⟨b.toNat, by omega⟩
  refine Fn.enter Try.func34 rfl Try.ntmps34 rfl ?_
  refine W.sub [(0, _), (1, _), (2, _)] (.cons rfl (.cons rfl (.cons rfl .nil))) ?_
  refine W.seq ?_
  refine W.region ?_
  refine WL.assign rfl rfl ?_
  refine WL.nil ?_
  refine WX.next ?_
  refine W.sub [(0, _), (1, _), (2, _)] (.cons rfl (.cons rfl (.cons rfl .nil))) ?_
  refine W.seq ?_
  refine W.drawM ([]) (by kernel_rfl) (fun j => [0, 1, 2, 3, 5, 6, 7, 8, 9, 10, 11, 12, 13].contains j) M (by first | ((repeat (first | with_reducible exact Sel.refl | with_reducible exact Sel.nil | with_reducible exact Del.here | with_reducible apply Del.there | with_reducible apply Sel.cons | with_reducible apply Sel.drop)); done) | (repeat (first | exact Sel.refl | exact Sel.nil | exact Del.here | apply Del.there | apply Sel.cons | apply Sel.drop))) ?_
  clear M; intro M
  apply DG.pure_ [4] 15 rfl (by kernel_rfl) (by kernel_rfl)
  · intro w
    refine WL.move rfl rfl ?_
    exact Chain.end_ rfl
  apply DG.take [0, 1, 2, 3, 5, 6, 7, 8, 9, 10, 11, 12, 13, 14, 15] 0 rfl (by kernel_rfl) (by kernel_rfl) (M.sel (by first | ((repeat (first | with_reducible exact Sel.refl | with_reducible exact Sel.nil | with_reducible exact Del.here | with_reducible apply Del.there | with_reducible apply Sel.cons | with_reducible apply Sel.drop)); done) | (repeat (first | exact Sel.refl | exact Sel.nil | exact Del.here | apply Del.there | apply Sel.cons | apply Sel.drop))))
  · intro w M
    refine WL.load Try.isAgg45 rfl ((Rd.mem hv M).one) rfl ?_
    refine WL.nilCheck rfl rfl ?_
    refine WL.fieldR (off := 0) Try.underlying51 rfl rfl Try.sizeOf22 rfl rfl rfl ?_
    refine WL.load Try.isAgg22 rfl ((Rd.mem hs M).one) rfl ?_
    refine WL.idxA Try.underlying22 Try.sizeOf3 rfl rfl (RdL.isSome (E := intE) (by first | with_reducible assumption | with_reducible exact RdL.mem (by with_reducible assumption) M | exact M.rdL (by first | ((repeat (first | with_reducible exact Has.here | with_reducible refine Has.there ?_)); done) | (repeat (first | exact Has.here | refine Has.there ?_))) | exact RdLH.at (by assumption) (M.sel (by first | ((repeat (first | with_reducible exact Sel.refl | with_reducible exact Sel.nil | with_reducible exact Del.here | with_reducible apply Del.there | with_reducible apply Sel.cons | with_reducible apply Sel.drop)); done) | (repeat (first | exact Sel.refl | exact Sel.nil | exact Del.here | apply Del.there | apply Sel.cons | apply Sel.drop)))) | exact RdL.nil _ _ _) (by omega)) (by omega) (by omega) (by first | exact rfl | exact (Int.toNat_of_nonneg (by omega)).symm) rfl ?_
    refine WL.loadE0 (E := intE) Try.isAgg3 rfl (by first | with_reducible assumption | with_reducible exact RdL.mem (by with_reducible assumption) M | exact M.rdL (by first | ((repeat (first | with_reducible exact Has.here | with_reducible refine Has.there ?_)); done) | (repeat (first | exact Has.here | refine Has.there ?_))) | exact RdLH.at (by assumption) (M.sel (by first | ((repeat (first | with_reducible exact Sel.refl | with_reducible exact Sel.nil | with_reducible exact Del.here | with_reducible apply Del.there | with_reducible apply Sel.cons | with_reducible apply Sel.drop)); done) | (repeat (first | exact Sel.refl | exact Sel.nil | exact Del.here | apply Del.there | apply Sel.cons | apply Sel.drop)))) | exact RdL.nil _ _ _) (by omega) rfl rfl ?_
    refine WL.load Try.isAgg45 rfl ((Rd.mem hv M).one) rfl ?_
    refine WL.nilCheck rfl rfl ?_
    refine WL.fieldR (off := 0) Try.underlying51 rfl rfl Try.sizeOf22 rfl rfl rfl ?_
    refine WL.load Try.isAgg22 rfl ((Rd.mem hs M).one) rfl ?_
    refine WL.load Try.isAgg3 rfl ((Rd.mem ht M).one) rfl ?_
    refine WL.idxA Try.underlying22 Try.sizeOf3 rfl rfl (RdL.isSome (E := intE) (by first | with_reducible assumption | with_reducible exact RdL.mem (by with_reducible assumption) M | exact M.rdL (by first | ((repeat (first | with_reducible exact Has.here | with_reducible refine Has.there ?_)); done) | (repeat (first | exact Has.here | refine Has.there ?_))) | exact RdLH.at (by assumption) (M.sel (by first | ((repeat (first | with_reducible exact Sel.refl | with_reducible exact Sel.nil | with_reducible exact Del.here | with_reducible apply Del.there | with_reducible apply Sel.cons | with_reducible apply Sel.drop)); done) | (repeat (first | exact Sel.refl | exact Sel.nil | exact Del.here | apply Del.there | apply Sel.cons | apply Sel.drop)))) | exact RdL.nil _ _ _) (by omega)) (by omega) (by omega) (by first | exact rfl | exact (Int.toNat_of_nonneg (by omega)).symm) rfl ?_
    refine WL.loadE0 (E := intE) Try.isAgg3 rfl (by first | with_reducible assumption | with_reducible exact RdL.mem (by with_reducible assumption) M | exact M.rdL (by first | ((repeat (first | with_reducible exact Has.here | with_reducible refine Has.there ?_)); done) | (repeat (first | exact Has.here | refine Has.there ?_))) | exact RdLH.at (by assumption) (M.sel (by first | ((repeat (first | with_reducible exact Sel.refl | with_reducible exact Sel.nil | with_reducible exact Del.here | with_reducible apply Del.there | with_reducible apply Sel.cons | with_reducible apply Sel.drop)); done) | (repeat (first | exact Sel.refl | exact Sel.nil | exact Del.here | apply Del.there | apply Sel.cons | apply Sel.drop)))) | exact RdL.nil _ _ _) (by omega) rfl rfl ?_
    refine WL.eqI rfl rfl rfl ?_
    refine WL.assign rfl rfl ?_
    exact Chain.end_ rfl
  refine DG.end_ (by kernel_rfl) ?_
  refine WX.next ?_
  refine W.sub [(4, _)] (.cons rfl .nil) ?_
  refine W.ret ?_
  refine WX.ret1 rfl rfl ?_
  exact ⟨rfl, M⟩
theorem source_ok {g : Nat} {As Al : Option Addr} {cs cl : Nat} {sites live : List Int} (hs1 : sites.length ≤ 12) (hlv : ∀ x ∈ live, 0 ≤ x ∧ x < (sites.length : Int)) (hll : live.length ≤ 1000) (hne : live.length ≠ 0) {b : Int} (hb0 : 0 ≤ b) (hb1 : b < (sites.length : Int)) {w0 : World}
    (hs : Rd w0 (some ⟨g, 0, none⟩) 1 1 1 [.slice As sites.length cs]) (hS : RdL w0 intE As cs sites) (hL : RdL w0 intE Al cl live) :
    Fn Try.prog 15 [.pointer (some ⟨g, 0, none⟩), .slice Al live.length cl, .int .i64 b] w0 fun v w' => (∃ f : Int, f ∈ live ∧ v = .int .i64 f) ∧ Mem w0 w' [] := by
  have M := Mem.refl w0
  obtain ⟨w, hw⟩ : ∃ w, w = w0 := ⟨w0, rfl⟩
  refine Fn.enter Try.func15 rfl Try.ntmps15 rfl ?_
  refine W.sub [(0, _), (1, _), (2, _)] (.cons rfl (.cons rfl (.cons rfl .nil))) ?_
  refine W.seq ?_
  refine W.region ?_
  refine WL.box rfl M rfl ?_
  intro g0_0 w M
  try simp only [Value.cells] at M
  try simp only [List.toList_toArray] at M
  refine WL.box rfl M rfl ?_
  intro g0_1 w M
  try simp only [Value.cells] at M
  try simp only [List.toList_toArray] at M
  refine WL.assign rfl rfl ?_
  refine WL.nil ?_
  refine WX.next ?_
  refine W.sub [(1, _), (3, _), (5, _)] (.cons rfl (.cons rfl (.cons rfl .nil))) ?_
  refine W.seq ?_
  refine W.seq ?_
  refine W.region ?_
  refine WL.move rfl rfl ?_
  refine WL.makeFunc (vs := [.pointer (some ⟨g0_0, 0, none⟩), .pointer (some ⟨g0_1, 0, none⟩)]) rfl rfl ?_
  refine WL.call Try.call33 rfl (sIndexF_ok (hL.mem M) _ #[.pointer (some ⟨g0_0, 0, none⟩), .pointer (some ⟨g0_1, 0, none⟩)] (fun x => decide (el sites x.toNat = el sites b.toNat)) source1_call (fun x hx w' m => source1_ok hs1 (hlv x hx).1 (hlv x hx).2 hb0 hb1 (rd_one (M.call0 m) (by first | ((repeat (first | with_reducible exact Has.here | with_reducible refine Has.there ?_)); done) | (repeat (first | exact Has.here | refine Has.there ?_))) 0 rfl) (rd_one (M.call0 m) (by first | ((repeat (first | with_reducible exact Has.here | with_reducible refine Has.there ?_)); done) | (repeat (first | exact Has.here | refine Has.there ?_))) 0 rfl) (Rd.mem hs (M.call0 m)) (hS.mem (M.call0 m))) (by omega)) rfl ?_
  rintro _ w ⟨rfl, m⟩
  replace M := M.call0 m; clear m
  refine WL.assign rfl rfl ?_
  refine WL.nil ?_
  refine WX.next ?_
  refine W.sub [(1, _), (7, _)] (.cons rfl (.cons rfl .nil)) ?_
  refine W.seq ?_
  refine W.region ?_
  refine WL.move rfl rfl ?_
  refine WL.geq rfl rfl rfl ?_
  refine WL.nil ?_
  refine WX.next ?_
  refine W.sub [(1, _), (7, _), (12, _)] (.cons rfl (.cons rfl (.cons rfl .nil))) ?_
  refine W.ite rfl (fun c0 => ?_) (fun c0 => ?_)
  · have hlt : live.findIdx (fun x => decide (el sites x.toNat = el sites b.toNat)) < live.length := by
      by_cases h : live.findIdx (fun x => decide (el sites x.toNat = el sites b.toNat)) < live.length
      · exact h
      · rw [atI_out h] at c0; omega
    rw [atI_in hlt]
    refine W.seq ?_
    refine W.region ?_
    refine WL.move rfl rfl ?_
    refine WL.move rfl rfl ?_
    refine WL.idxA Try.underlying22 Try.sizeOf3 rfl rfl (RdL.isSome (E := intE) (by first | with_reducible assumption | with_reducible exact RdL.mem (by with_reducible assumption) M | exact M.rdL (by first | ((repeat (first | with_reducible exact Has.here | with_reducible refine Has.there ?_)); done) | (repeat (first | exact Has.here | refine Has.there ?_))) | exact RdLH.at (by assumption) (M.sel (by first | ((repeat (first | with_reducible exact Sel.refl | with_reducible exact Sel.nil | with_reducible exact Del.here | with_reducible apply Del.there | with_reducible apply Sel.cons | with_reducible apply Sel.drop)); done) | (repeat (first | exact Sel.refl | exact Sel.nil | exact Del.here | apply Del.there | apply Sel.cons | apply Sel.drop)))) | exact RdL.nil _ _ _) (by omega)) (by omega) (by omega) (by first | exact rfl | exact (Int.toNat_of_nonneg (by omega)).symm) rfl ?_
    refine WL.loadE0 (E := intE) Try.isAgg3 rfl (by first | with_reducible assumption | with_reducible exact RdL.mem (by with_reducible assumption) M | exact M.rdL (by first | ((repeat (first | with_reducible exact Has.here | with_reducible refine Has.there ?_)); done) | (repeat (first | exact Has.here | refine Has.there ?_))) | exact RdLH.at (by assumption) (M.sel (by first | ((repeat (first | with_reducible exact Sel.refl | with_reducible exact Sel.nil | with_reducible exact Del.here | with_reducible apply Del.there | with_reducible apply Sel.cons | with_reducible apply Sel.drop)); done) | (repeat (first | exact Sel.refl | exact Sel.nil | exact Del.here | apply Del.there | apply Sel.cons | apply Sel.drop)))) | exact RdL.nil _ _ _) (by omega) rfl rfl ?_
    refine WL.assign rfl rfl ?_
    refine WL.nil ?_
    refine WX.next ?_
    refine W.sub [(6, _)] (.cons rfl .nil) ?_
    refine W.ret ?_
    refine WX.thenRet ?_
    refine WX.ret1 rfl rfl ?_
    exact ⟨⟨_, el_mem hlt, rfl⟩, M.sel (by first | ((repeat (first | with_reducible exact Sel.refl | with_reducible exact Sel.nil | with_reducible exact Del.here | with_reducible apply Del.there | with_reducible apply Sel.cons | with_reducible apply Sel.drop)); done) | (repeat (first | exact Sel.refl | exact Sel.nil | exact Del.here | apply Del.there | apply Sel.cons | apply Sel.drop)))⟩
  · refine W.skip ?_
    refine WX.next ?_
    refine W.seq ?_
    refine W.region ?_
    refine WL.move rfl rfl ?_
    refine WL.idxA (jn := 0) Try.underlying22 Try.sizeOf3 rfl rfl (RdL.isSome (E := intE) (by first | with_reducible assumption | with_reducible exact RdL.mem (by with_reducible assumption) M | exact M.rdL (by first | ((repeat (first | with_reducible exact Has.here | with_reducible refine Has.there ?_)); done) | (repeat (first | exact Has.here | refine Has.there ?_))) | exact RdLH.at (by assumption) (M.sel (by first | ((repeat (first | with_reducible exact Sel.refl | with_reducible exact Sel.nil | with_reducible exact Del.here | with_reducible apply Del.there | with_reducible apply Sel.cons | with_reducible apply Sel.drop)); done) | (repeat (first | exact Sel.refl | exact Sel.nil | exact Del.here | apply Del.there | apply Sel.cons | apply Sel.drop)))) | exact RdL.nil _ _ _) (by omega)) (by omega) (by omega) (by first | exact rfl | exact (Int.toNat_of_nonneg (by omega)).symm) rfl ?_
    refine WL.loadE0 (E := intE) Try.isAgg3 rfl (by first | with_reducible assumption | with_reducible exact RdL.mem (by with_reducible assumption) M | exact M.rdL (by first | ((repeat (first | with_reducible exact Has.here | with_reducible refine Has.there ?_)); done) | (repeat (first | exact Has.here | refine Has.there ?_))) | exact RdLH.at (by assumption) (M.sel (by first | ((repeat (first | with_reducible exact Sel.refl | with_reducible exact Sel.nil | with_reducible exact Del.here | with_reducible apply Del.there | with_reducible apply Sel.cons | with_reducible apply Sel.drop)); done) | (repeat (first | exact Sel.refl | exact Sel.nil | exact Del.here | apply Del.there | apply Sel.cons | apply Sel.drop)))) | exact RdL.nil _ _ _) (by omega) rfl rfl ?_
    refine WL.assign rfl rfl ?_
    refine WL.nil ?_
    refine WX.next ?_
    refine W.sub [(6, _)] (.cons rfl .nil) ?_
    refine W.ret ?_
    refine WX.ret1 rfl rfl ?_
    exact ⟨⟨_, el_mem (by omega), rfl⟩, M.sel (by first | ((repeat (first | with_reducible exact Sel.refl | with_reducible exact Sel.nil | with_reducible exact Del.here | with_reducible apply Del.there | with_reducible apply Sel.cons | with_reducible apply Sel.drop)); done) | (repeat (first | exact Sel.refl | exact Sel.nil | exact Del.here | apply Del.there | apply Sel.cons | apply Sel.drop)))⟩
end Go.Proofs.Ytkdkdaljgoibaaa
