/-
  What arguments read as: a call, calls (seat law13); are there more bytes than are looked at.
-/
import Derived.Test.YtmogpoghngmnmaaKnown13
import Derived.Test.YtmogpoghngmnmaaLift2
import Derived.Test.YtmogpoghngmnmaaEncs
namespace Go.Proofs.Ytmogpoghngmnmaa
open Go Go.RowKit Go.ChangeShapes Go.WideShapes Go.ChangeAt

/-- A call that was handed in. -/
structure AcX where
  kind : Int
  id : Nat
  num : Nat
  A : Option Addr
  cap : Nat
  rep : List UInt8
instance : Inhabited AcX := ⟨⟨0, 0, 0, none, 0, []⟩⟩
def AcX.v (c : AcX) : Value := .agg #[.int .i64 c.kind, .int .u64 (c.id : Int), .int .u64 (c.num : Int), .slice c.A c.rep.length c.cap]
def actE : Enc AcX := ⟨35, 4, fun c => [.int .i64 c.kind, .int .u64 (c.id : Int), .int .u64 (c.num : Int), .slice c.A c.rep.length c.cap], fun _ => rfl, (fun a v hv => by
  simp only [List.mem_cons, List.not_mem_nil, or_false] at hv
  rcases hv with rfl | rfl | rfl | rfl <;> rfl), by decide⟩
structure AcX.inn (W : World) (c : AcX) : Prop where
  kind : -9223372036854775808 ≤ c.kind ∧ c.kind ≤ 9223372036854775807
  id : c.id < 18446744073709551616
  num : c.num < 18446744073709551616
  rd : RdB W c.A c.cap c.rep

section
variable {H : Type} {enc : TypeId × Value → H} {W : World} {base : Nat} {sp : Nat → Bool} {held : Bool}
set_option maxRecDepth 10000 in
theorem in_act {m : Nat} {cs : List Value} {x : DataW H × List MemPlace} (h : DataW.trod enc Try.prog W base sp held m 35 cs = some x) : ∃ s : AcX, cs = actE.cells s ∧ s.inn W := by
  obtain ⟨hl, m, hp⟩ := in_fields Try.underlying35 h
  have hl2 : cs.length = 4 := hl.trans (by kernel_rfl)
  match cs, hl2 with
  | [c0, c1, c2, c3], _ =>
    obtain ⟨y0, h0⟩ := hp 0 _ rfl
    obtain ⟨y1, h1⟩ := hp 1 _ rfl
    obtain ⟨y2, h2⟩ := hp 2 _ rfl
    obtain ⟨y3, h3⟩ := hp 3 _ rfl
    dsimp only at h0 h1 h2 h3
    obtain ⟨z, e0, hz⟩ := in_i64 Try.underlying3 h0
    obtain ⟨a, e1, ha⟩ := in_u64 Try.underlying29 h1
    obtain ⟨b, e2, hb⟩ := in_u64 Try.underlying29 h2
    obtain ⟨A, l, cap, e3, hr, _⟩ := in_bytes Try.underlying32 Try.underlying5 (by kernel_rfl) h3
    rw [show Program.cellsOf Try.prog 3 = 1 by kernel_rfl] at e0
    rw [show Program.cellsOf Try.prog 29 = 1 by kernel_rfl] at e1 e2
    rw [show Program.cellsOf Try.prog 32 = 1 by kernel_rfl] at e3
    obtain rfl : c0 = .int .i64 z := by simpa using e0
    obtain rfl : c1 = .int .u64 (a : Int) := by simpa using e1
    obtain rfl : c2 = .int .u64 (b : Int) := by simpa using e2
    obtain rfl : c3 = .slice A l.length cap := by simpa using e3
    exact ⟨⟨z, a, b, A, cap, l⟩, rfl, hz, ha, hb, hr⟩
set_option maxRecDepth 10000 in
theorem act_in {v : Value} {d : DataW H} {ps : List MemPlace} (hv : Value.okWide Try.prog W .any base 35 v)
    (h : DataW.Trod enc Try.prog W 0 (fun _ => true) true 35 v d ps) : ∃ s : AcX, v = s.v ∧ s.inn W := by
  obtain ⟨fuel, x, cs, rfl, h2⟩ := arg_struct Try.underlying35 hv h
  obtain ⟨s, rfl, hs⟩ := in_act h2
  exact ⟨s, rfl, hs⟩
set_option maxRecDepth 10000 in
theorem acts_in {v : Value} {d : DataW H} {ps : List MemPlace} (hv : Value.okWide Try.prog W .any base 22 v)
    (h : DataW.Trod enc Try.prog W 0 (fun _ => true) true 22 v d ps) : ∃ A l cap, v = .slice A (List.length l) cap ∧ RdL W actE A cap l ∧ (∀ s ∈ l, s.inn W) ∧ cap ≤ maxLen := by
  obtain ⟨fuel, x, h1, h⟩ := arg_slice Try.underlying22 hv h
  obtain ⟨A, l, cap, he, hR, hQ, hm⟩ := in_list (E := actE) (Q := fun s => s.inn W) Try.underlying22 (by kernel_rfl) (fun m cs x h => in_act h) h
  exact ⟨A, l, cap, by simpa using he, hR, hQ, hm⟩
end

/-- Is one of the first 300 long? -/
def longB (l : List AcX) : Bool := (l.take 300).any fun c => decide (1000 < c.rep.length)
theorem longB_no {l : List AcX} (h : longB l = false) {k : Nat} (hk : k < l.length) (h3 : k < 300) : (el l k).rep.length ≤ 1000 := by
  have hm : el l k ∈ l.take 300 := by
    refine List.mem_of_getElem? (i := k) ?_
    rw [List.getElem?_take, if_pos h3, el_get hk]
  have := (List.any_eq_false.1 h) _ hm
  simp at this
  omega
theorem long_ok {A : Option Addr} {cap : Nat} {l : List AcX} {w0 : World} (h : RdL w0 actE A cap l) (hcap : cap ≤ maxLen) : Fn Try.prog 9 [.slice A l.length cap] w0 fun v w' => v = .bool (longB l) ∧ Mem w0 w' [] := by
  have M := Mem.refl w0
  have hln := h.le
  have hmx : l.length ≤ maxLen := Nat.le_trans hln hcap
  unfold maxLen at hmx
  refine Fn.enter Try.func9 rfl Try.ntmps9 rfl ?_
  refine W.sub [(0, _)] (.cons rfl .nil) ?_
  refine W.seq ?_
  refine W.region ?_
  refine WL.assign rfl rfl ?_
  refine WL.nil ?_
  refine WX.next ?_
  refine W.sub [(0, _)] (.cons rfl .nil) ?_
  refine W.seq ?_
  refine W.seq ?_
  refine W.region ?_
  refine WL.assign rfl rfl ?_
  refine WL.nil ?_
  refine WX.next ?_
  refine W.sub [(0, _), (3, _)] (.cons rfl (.cons rfl .nil)) ?_
  refine W.block ?_
  refine W.loop (ι := Nat) (fun i => [(0, .slice A l.length cap), (3, .int .i64 (i : Int))]) (fun zz w => Mem w0 w ((fun _ => []) zz) ∧ (fun i => (i ≤ l.length ∧ i ≤ 300) ∧ ∀ c ∈ l.take i, ¬ 1000 < c.rep.length) zz) (fun i => 300 - i) (0) (by (repeat' (first | exact envSub.nil | refine envSub.cons ?_ ?_)) <;> first | rfl | (refine congrArg some ?_; refine congrArg (Value.int _) ?_; first | omega | (dsimp only; omega)) | (simp; done) | (refine congrArg some ?_; dsimp only; congr 1; omega) | (simp; omega)) ⟨M.sel (by first | ((repeat (first | with_reducible exact Sel.refl | with_reducible exact Sel.nil | with_reducible exact Del.here | with_reducible apply Del.there | with_reducible apply Sel.cons | with_reducible apply Sel.drop)); done) | (repeat (first | exact Sel.refl | exact Sel.nil | exact Del.here | apply Del.there | apply Sel.cons | apply Sel.drop))), ⟨by omega, fun c hc => by simp at hc⟩⟩ ?_
  clear M; rintro (i) w ⟨M, ⟨hi, hs⟩⟩; dsimp only at M hi hs ⊢
  refine W.sub [(0, _), (3, _)] (.cons rfl (.cons rfl .nil)) ?_
  refine W.seq ?_
  refine W.seq ?_
  refine W.region ?_
  refine WL.move rfl rfl ?_
  refine WL.move rfl rfl ?_
  refine WL.len Try.underlying22 rfl rfl ?_
  refine WL.lss rfl rfl rfl ?_
  refine WL.moveIf rfl rfl (fun c0 => ?_) (fun c0 => ?_)
  · refine WL.on rfl rfl ?_
    refine WL.move rfl rfl ?_
    refine WL.on rfl rfl ?_
    refine WL.lss rfl rfl rfl ?_
    refine WL.pickT rfl rfl rfl ?_
    refine WL.nil ?_
    refine WX.next ?_
    refine W.sub [(0, _), (3, _), (11, _)] (.cons rfl (.cons rfl (.cons rfl .nil))) ?_
    refine W.ite rfl (fun c1 => ?_) (fun c1 => ?_)
    · refine W.skip ?_
      refine WX.next ?_
      refine W.seq ?_
      refine W.block ?_
      refine W.seq ?_
      refine W.region ?_
      refine WL.move rfl rfl ?_
      refine WL.move rfl rfl ?_
      refine WL.idxA Try.underlying22 Try.sizeOf35 rfl rfl (RdL.isSome (E := actE) (by first | with_reducible assumption | with_reducible exact RdL.mem (by with_reducible assumption) M | exact M.rdL (by first | ((repeat (first | with_reducible exact Has.here | with_reducible refine Has.there ?_)); done) | (repeat (first | exact Has.here | refine Has.there ?_))) | exact RdLH.at (by assumption) (M.sel (by first | ((repeat (first | with_reducible exact Sel.refl | with_reducible exact Sel.nil | with_reducible exact Del.here | with_reducible apply Del.there | with_reducible apply Sel.cons | with_reducible apply Sel.drop)); done) | (repeat (first | exact Sel.refl | exact Sel.nil | exact Del.here | apply Del.there | apply Sel.cons | apply Sel.drop)))) | exact RdL.nil _ _ _) (by omega)) (by omega) (by omega) (by first | exact rfl | exact (Int.toNat_of_nonneg (by omega)).symm) rfl ?_
      refine WL.fieldA (off := 3) Try.underlying35 rfl rfl Try.sizeOf32 rfl rfl rfl ?_
      refine WL.loadE (E := actE) Try.isAgg32 rfl (by first | with_reducible assumption | with_reducible exact RdL.mem (by with_reducible assumption) M | exact M.rdL (by first | ((repeat (first | with_reducible exact Has.here | with_reducible refine Has.there ?_)); done) | (repeat (first | exact Has.here | refine Has.there ?_))) | exact RdLH.at (by assumption) (M.sel (by first | ((repeat (first | with_reducible exact Sel.refl | with_reducible exact Sel.nil | with_reducible exact Del.here | with_reducible apply Del.there | with_reducible apply Sel.cons | with_reducible apply Sel.drop)); done) | (repeat (first | exact Sel.refl | exact Sel.nil | exact Del.here | apply Del.there | apply Sel.cons | apply Sel.drop)))) | exact RdL.nil _ _ _) (by omega) rfl rfl ?_
      refine WL.len Try.underlying32 rfl rfl ?_
      refine WL.gtr rfl rfl rfl ?_
      refine WL.nil ?_
      refine WX.next ?_
      refine W.sub [(0, _), (3, _), (20, _)] (.cons rfl (.cons rfl (.cons rfl .nil))) ?_
      refine W.ite rfl (fun c2 => ?_) (fun c2 => ?_)
      · refine W.seq ?_
        refine W.region ?_
        refine WL.assign rfl rfl ?_
        refine WL.nil ?_
        refine WX.next ?_
        refine W.sub [(2, _)] (.cons rfl .nil) ?_
        refine W.ret ?_
        refine WX.blockRet ?_
        refine WX.thenRet ?_
        refine WX.thenRet ?_
        refine WX.blockRet ?_
        refine WX.thenRet ?_
        refine WX.ret1 rfl rfl ?_
        have e : longB l = true := by
          unfold longB
          rw [List.any_eq_true]
          refine ⟨el l i, List.mem_of_getElem? (i := i) ?_, by simp; omega⟩
          rw [List.getElem?_take, if_pos (by omega), el_get (by omega)]
        exact ⟨by rw [e], M⟩
      · refine W.skip ?_
        refine WX.blockNormal ?_
        refine WX.next ?_
        refine W.region ?_
        refine WL.move rfl rfl ?_
        refine WL.add rfl rfl (by first | exact wI64 (by omega) | rfl) rfl ?_
        refine WL.assign rfl rfl ?_
        refine WL.nil ?_
        skip
        have q : ∀ c ∈ l.take (i + 1), ¬ 1000 < c.rep.length := by
          intro c hc
          rw [List.take_add_one, el_get (by omega)] at hc
          rcases List.mem_append.1 hc with hc | hc
          · exact hs c hc
          · obtain rfl : c = el l i := by simpa using hc
            omega
        refine WX.round (i + 1) (by (repeat' (first | exact envSub.nil | refine envSub.cons ?_ ?_)) <;> first | rfl | (refine congrArg some ?_; refine congrArg (Value.int _) ?_; first | omega | (dsimp only; omega)) | (simp; done) | (refine congrArg some ?_; dsimp only; congr 1; omega) | (simp; omega)) ⟨M.sel (by first | ((repeat (first | with_reducible exact Sel.refl | with_reducible exact Sel.nil | with_reducible exact Del.here | with_reducible apply Del.there | with_reducible apply Sel.cons | with_reducible apply Sel.drop)); done) | (repeat (first | exact Sel.refl | exact Sel.nil | exact Del.here | apply Del.there | apply Sel.cons | apply Sel.drop))), ⟨by omega, q⟩⟩ (by first | omega | (dsimp only; omega))
    · refine W.exit ?_
      refine WX.thenExit ?_
      refine WX.thenExit ?_
      refine WX.blockHere ?_
      refine WX.next ?_
      refine W.seq ?_
      refine W.region ?_
      refine WL.assign rfl rfl ?_
      refine WL.nil ?_
      refine WX.next ?_
      refine W.sub [(2, _)] (.cons rfl .nil) ?_
      refine W.ret ?_
      refine WX.ret1 rfl rfl ?_
      have e : longB l = false := by
        unfold longB
        rw [List.any_eq_false]
        intro c hc
        have hc2 : c ∈ l.take i := by
          rcases Nat.lt_or_ge i 300 with h3 | h3
          · rw [List.take_of_length_le (by omega)] at hc ⊢
            exact hc
          · rw [show i = 300 by omega]
            exact hc
        simpa using hs c hc2
      exact ⟨by rw [e], M⟩
  · refine WL.off rfl rfl rfl rfl ?_
    refine WL.off rfl rfl rfl rfl ?_
    refine WL.pickF rfl rfl rfl ?_
    refine WL.nil ?_
    refine WX.next ?_
    refine W.sub [(0, _), (3, _), (11, _)] (.cons rfl (.cons rfl (.cons rfl .nil))) ?_
    refine W.condF rfl ?_
    refine W.exit ?_
    refine WX.thenExit ?_
    refine WX.thenExit ?_
    refine WX.blockHere ?_
    refine WX.next ?_
    refine W.seq ?_
    refine W.region ?_
    refine WL.assign rfl rfl ?_
    refine WL.nil ?_
    refine WX.next ?_
    refine W.sub [(2, _)] (.cons rfl .nil) ?_
    refine W.ret ?_
    refine WX.ret1 rfl rfl ?_
    have e : longB l = false := by
      unfold longB
      rw [List.any_eq_false]
      intro c hc
      have hc2 : c ∈ l.take i := by
        rcases Nat.lt_or_ge i 300 with h3 | h3
        · rw [List.take_of_length_le (by omega)] at hc ⊢
          exact hc
        · rw [show i = 300 by omega]
          exact hc
      simpa using hs c hc2
    exact ⟨by rw [e], M⟩
end Go.Proofs.Ytmogpoghngmnmaa
