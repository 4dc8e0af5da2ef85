/-
  Walks: SortFunc, TrailingZeros32, what orders nodes, Order, Leader (beat).
-/
import Derived.Test.YtmkhggfcgblefaaDoorSort
import Derived.Test.YtmkhggfcgblefaaDoorSlices2
import Derived.Test.YtmkhggfcgblefaaDoorBeat1
namespace Go.Proofs.YtmkhggfcgblefaaDoor
open Go Go.RowKit Bin

theorem pdq_ok {A : Option Addr} {cap : Nat} {l : List Int} (hl : l.length ≤ 12) (lim : Int) (f : FuncId) (cs : Array Value) (cmp : Int → Int → Int) (hcall : ∀ (args : Array Value) (w : World), (callFunc f args).run Tryd.prog w = .ok (.enter f args) w)
    (hb : ∀ x y, -1 ≤ cmp x y ∧ cmp x y ≤ 1) (tr : ∀ a b c, cmp a b < 0 → cmp b c < 0 → cmp a c < 0) (tot : ∀ a b, ¬ cmp a b < 0 → a ≠ b → cmp b a < 0) (hnd : l.Nodup) (w0 w : World) (L L' : List Asr) (M : Mem w0 w L) (hd : Del (Asr.lst intE A cap l) L L')
    (hp : ∀ x ∈ l, ∀ y ∈ l, ∀ w', Mem w0 w' L' → Fn Tryd.prog f ([.int .i64 x, .int .i64 y] ++ cs.toList) w' fun v w'' => v = .int .i64 (cmp x y) ∧ Mem w' w'' []) :
    Fn Tryd.prog 38 [.slice A l.length cap, .int .i64 0, .int .i64 (l.length : Int), .int .i64 lim, .func (.func f) #[] cs] w fun _ w' => ∃ m : List Int, m.length = l.length ∧ m.Perm l ∧ (∀ p q, p < q → q < l.length → cmp (el m p) (el m q) < 0) ∧ Mem w0 w' (Asr.lst intE A cap m :: L') := by
  have M1 := M.del hd
  replace M := M1
  refine Fn.enter Tryd.func38 rfl Tryd.ntmps38 rfl ?_
  refine W.sub [(0, _), (1, _), (2, _), (3, _), (4, _)] (.cons rfl (.cons rfl (.cons rfl (.cons rfl (.cons rfl .nil))))) ?_
  refine W.seq ?_
  refine W.region ?_
  refine WL.assign rfl rfl ?_
  refine WL.nil ?_
  refine WX.next ?_
  refine W.sub [(0, _), (1, _), (2, _), (3, _), (4, _), (10, _)] (.cons rfl (.cons rfl (.cons rfl (.cons rfl (.cons rfl (.cons rfl .nil)))))) ?_
  refine W.seq ?_
  refine W.region ?_
  refine WL.assign rfl rfl ?_
  refine WL.nil ?_
  refine WX.next ?_
  refine W.sub [(0, _), (1, _), (2, _), (3, _), (4, _), (10, _), (11, _)] (.cons rfl (.cons rfl (.cons rfl (.cons rfl (.cons rfl (.cons rfl (.cons rfl .nil))))))) ?_
  refine W.block ?_
  refine W.loop (ι := Unit) (fun _ => [(0, .slice A l.length cap), (1, .int .i64 0), (2, .int .i64 (l.length : Int)), (3, .int .i64 lim), (4, .func (.func f) #[] cs), (10, .bool true), (11, .bool true)]) (fun zz w => Mem w0 w ((fun _ => Asr.lst intE A cap l :: L') zz) ∧ (fun _ => True) zz) (fun _ => 0) (()) (by (repeat' (first | exact envSub.nil | refine envSub.cons ?_ ?_)) <;> first | rfl | (refine congrArg some ?_; refine congrArg (Value.int _) ?_; first | omega | (dsimp only; omega)) | (simp; done) | (refine congrArg some ?_; dsimp only; congr 1; omega) | (simp; omega)) ⟨M.sel (by first | ((repeat (first | with_reducible exact Sel.refl | with_reducible exact Sel.nil | with_reducible exact Del.here | with_reducible apply Del.there | with_reducible apply Sel.cons | with_reducible apply Sel.drop)); done) | (repeat (first | exact Sel.refl | exact Sel.nil | exact Del.here | apply Del.there | apply Sel.cons | apply Sel.drop))), trivial⟩ ?_
  clear M; rintro (_) w ⟨M, -⟩; dsimp only at M ⊢
  refine W.sub [(0, _), (1, _), (2, _), (3, _), (4, _), (10, _), (11, _)] (.cons rfl (.cons rfl (.cons rfl (.cons rfl (.cons rfl (.cons rfl (.cons rfl .nil))))))) ?_
  refine W.block ?_
  refine W.seq ?_
  refine W.region ?_
  refine WL.move rfl rfl ?_
  refine WL.move rfl rfl ?_
  refine WL.sub' rfl rfl (by first | exact wI64 (by omega) | rfl) rfl ?_
  refine WL.assign rfl rfl ?_
  refine WL.nil ?_
  refine WX.next ?_
  refine W.sub [(0, _), (1, _), (2, _), (3, _), (4, _), (10, _), (11, _), (12, _)] (.cons rfl (.cons rfl (.cons rfl (.cons rfl (.cons rfl (.cons rfl (.cons rfl (.cons rfl .nil)))))))) ?_
  refine W.seq ?_
  refine W.seq ?_
  refine W.region ?_
  refine WL.move rfl rfl ?_
  refine WL.leq rfl rfl rfl ?_
  refine WL.nil ?_
  refine WX.next ?_
  refine W.sub [(0, _), (1, _), (2, _), (3, _), (4, _), (10, _), (11, _), (12, _), (25, _)] (.cons rfl (.cons rfl (.cons rfl (.cons rfl (.cons rfl (.cons rfl (.cons rfl (.cons rfl (.cons rfl .nil))))))))) ?_
  refine W.ite rfl (fun c0 => ?_) (fun c0 => ?_)
  · refine W.seq ?_
    refine W.region ?_
    refine WL.move rfl rfl ?_
    refine WL.move rfl rfl ?_
    refine WL.move rfl rfl ?_
    refine WL.move rfl rfl ?_
    refine WL.call Tryd.call41 rfl (insSort_ok hl f cs cmp hcall hb tr tot hnd w0 _ _ _ M (by first | ((repeat (first | with_reducible exact Del.here | with_reducible apply Del.there)); done) | (repeat (first | exact Del.here | apply Del.there))) hp rfl) rfl ?_
    rintro _ w ⟨m, h1, h2, h3, M⟩
    refine WL.nil ?_
    refine WX.next ?_
    refine W.sub [] .nil ?_
    refine W.ret ?_
    refine WX.thenRet ?_
    refine WX.blockRet ?_
    refine WX.thenRet ?_
    refine WX.blockRet ?_
    refine WX.ret0 rfl ?_
    exact ⟨m, h1, h2, h3, M⟩
  · exact absurd (by omega) c0
theorem sort_ok {A : Option Addr} {cap : Nat} {l : List Int} (hl : l.length ≤ 12) (f : FuncId) (cs : Array Value) (cmp : Int → Int → Int) (hcall : ∀ (args : Array Value) (w : World), (callFunc f args).run Tryd.prog w = .ok (.enter f args) w)
    (hb : ∀ x y, -1 ≤ cmp x y ∧ cmp x y ≤ 1) (tr : ∀ a b c, cmp a b < 0 → cmp b c < 0 → cmp a c < 0) (tot : ∀ a b, ¬ cmp a b < 0 → a ≠ b → cmp b a < 0) (hnd : l.Nodup) (w0 w : World) (L L' : List Asr) (M : Mem w0 w L) (hd : Del (Asr.lst intE A cap l) L L')
    (hp : ∀ x ∈ l, ∀ y ∈ l, ∀ w', Mem w0 w' L' → Fn Tryd.prog f ([.int .i64 x, .int .i64 y] ++ cs.toList) w' fun v w'' => v = .int .i64 (cmp x y) ∧ Mem w' w'' []) :
    Fn Tryd.prog 32 [.slice A l.length cap, .func (.func f) #[] cs] w fun _ w' => ∃ m : List Int, m.length = l.length ∧ m.Perm l ∧ (∀ p q, p < q → q < l.length → cmp (el m p) (el m q) < 0) ∧ Mem w0 w' (Asr.lst intE A cap m :: L') := by
  have M1 := M.del hd
  replace M := M1
  refine Fn.enter Tryd.func32 rfl Tryd.ntmps32 rfl ?_
  refine W.sub [(0, _), (1, _)] (.cons rfl (.cons rfl .nil)) ?_
  refine W.seq ?_
  refine W.region ?_
  refine WL.move rfl rfl ?_
  refine WL.len Tryd.underlying22 rfl rfl ?_
  refine WL.assign rfl rfl ?_
  refine WL.nil ?_
  refine WX.next ?_
  refine W.sub [(0, _), (1, _), (4, _)] (.cons rfl (.cons rfl (.cons rfl .nil))) ?_
  refine W.region ?_
  refine WL.move rfl rfl ?_
  refine WL.move rfl rfl ?_
  refine WL.move rfl rfl ?_
  refine WL.conv Tryd.underlying3 Tryd.underlying39 rfl (by first | exact wU64 (by omega) | exact mU64 _ | rfl) rfl ?_
  refine WL.call Tryd.call39 rfl (Len_ok l.length (by omega) _) rfl ?_
  rintro _ _ ⟨rfl, rfl⟩
  refine WL.move rfl rfl ?_
  refine WL.call Tryd.call38 rfl (pdq_ok hl _ f cs cmp hcall hb tr tot hnd w0 _ _ _ M (by first | ((repeat (first | with_reducible exact Del.here | with_reducible apply Del.there)); done) | (repeat (first | exact Del.here | apply Del.there))) hp) rfl ?_
  rintro _ w ⟨m, h1, h2, h3, M⟩
  refine WL.nil ?_
  refine WX.end0 rfl ?_
  exact ⟨m, h1, h2, h3, M⟩
/-- The table of the package math/bits stands where it was laid. -/
def Tab (w : World) : Prop := Rd w (some ⟨0, 0, none⟩) 32 32 1 (tabL.map fun k : Nat => Value.int .u8 (k : Int))
theorem Tab.mem {w w' : World} {L : List Asr} (h : Tab w) (M : Mem w w' L) : Tab w' := Rd.mem h M
theorem Tab.cell {w : World} (h : Tab w) {j : Nat} (hj : j < 32) : w.cell? ⟨0, j, none⟩ = some (.int .u8 ((el tabL j : Nat) : Int)) := by
  obtain ⟨ad, e, _, hc⟩ := h.at_ (by decide)
  cases e
  have hl : j < tabL.length := hj
  have := hc j (.int .u8 ((el tabL j : Nat) : Int)) (by simp [el, hl])
  rwa [add_lit, Nat.zero_add] at this
theorem tab_lt {j : Nat} (h : j < 32) : el tabL j < 32 := by
  have : ∀ j : Fin 32, el tabL j.val < 32 := by decide
  exact this ⟨j, h⟩
theorem ctz_ok (n : Nat) (hn : n < 4096) (h0 : n ≠ 0) (w : World) (ht : Tab w) : Fn Tryd.prog 31 [.int .u32 (n : Int)] w fun v w' => v = .int .i64 ((el tabL (tabI n) : Nat) : Int) ∧ w' = w := by
  have M := Mem.refl w
  obtain ⟨h1, -, -, -⟩ := ones_step hn h0
  have h2 := tab_lt h1
  refine Fn.enter Tryd.func31 rfl Tryd.ntmps31 rfl ?_
  refine W.sub [(0, _)] (.cons rfl .nil) ?_
  refine W.seq ?_
  refine W.region ?_
  refine WL.assign rfl rfl ?_
  refine WL.nil ?_
  refine WX.next ?_
  refine W.sub [(0, _)] (.cons rfl .nil) ?_
  refine W.seq ?_
  refine W.seq ?_
  refine W.region ?_
  refine WL.move rfl rfl ?_
  refine WL.eqI rfl rfl rfl ?_
  refine WL.nil ?_
  refine WX.next ?_
  refine W.sub [(0, _), (4, _)] (.cons rfl (.cons rfl .nil)) ?_
  refine W.ite rfl (fun c0 => ?_) (fun c0 => ?_)
  · exact absurd c0 (by omega)
  · refine W.skip ?_
    refine WX.next ?_
    refine W.seq ?_
    refine W.region ?_
    refine WL.move rfl rfl ?_
    refine WL.move rfl rfl ?_
    refine WL.neg rfl (show IntKind.u32.wrap (0 - (n : Int)) = ((4294967296 - n : Nat) : Int) by rw [mU32]; omega) rfl ?_
    refine WL.band rfl rfl (andU32 n (4294967296 - n) (by omega) (by omega)) rfl ?_
    refine WL.mul rfl rfl (show IntKind.u32.wrap (((n &&& (4294967296 - n) : Nat) : Int) * 125613361) = (((n &&& (4294967296 - n)) * 125613361 % 4294967296 : Nat) : Int) by rw [mU32]; omega) rfl ?_
    refine WL.shrC rfl rfl 27 rfl rfl 134217728 rfl rfl ?_
    refine WL.idxArr Tryd.underlying58 Tryd.sizeOf5 rfl rfl (by omega) (by omega) (show (((n &&& (4294967296 - n)) * 125613361 % 4294967296 : Nat) : Int) / 134217728 = ((tabI n : Nat) : Int) by unfold tabI; omega) rfl ?_
    refine WL.load Tryd.isAgg5 rfl (show World.cell? _ (Addr.add ⟨0, 0, none⟩ (tabI n * 1)) = _ by rw [add_lit, Nat.zero_add, Nat.mul_one]; exact ht.cell h1) rfl ?_
    refine WL.conv Tryd.underlying5 Tryd.underlying3 rfl (by first | exact wI64 (by omega) | rfl) rfl ?_
    refine WL.assign rfl rfl ?_
    refine WL.nil ?_
    refine WX.next ?_
    refine W.sub [(2, _)] (.cons rfl .nil) ?_
    refine W.ret ?_
    refine WX.ret1 rfl rfl ?_
    exact ⟨rfl, rfl⟩
theorem isNaN_ok (z : Int) (w : World) : Fn Tryd.prog 40 [.int .i64 z] w fun v w' => v = .bool (decide False) ∧ w' = w := by
  have M := Mem.refl w
  refine Fn.enter Tryd.func40 rfl Tryd.ntmps40 rfl ?_
  refine W.sub [(0, _)] (.cons rfl .nil) ?_
  refine W.seq ?_
  refine W.region ?_
  refine WL.assign rfl rfl ?_
  refine WL.nil ?_
  refine WX.next ?_
  refine W.sub [(0, _)] (.cons rfl .nil) ?_
  refine W.seq ?_
  refine W.region ?_
  refine WL.move rfl rfl ?_
  refine WL.move rfl rfl ?_
  refine WL.neI rfl rfl rfl ?_
  refine WL.assign rfl rfl ?_
  refine WL.nil ?_
  refine WX.next ?_
  refine W.sub [(2, _)] (.cons rfl .nil) ?_
  refine W.ret ?_
  refine WX.ret1 rfl rfl ?_
  exact ⟨by simp, rfl⟩
theorem Compare_ok (x y : Int) (w : World) : Fn Tryd.prog 35 [.int .i64 x, .int .i64 y] w fun v w' => v = .int .i64 (cmpZ x y) ∧ w' = w := by
  have M := Mem.refl w
  refine Fn.enter Tryd.func35 rfl Tryd.ntmps35 rfl ?_
  refine W.sub [(0, _), (1, _)] (.cons rfl (.cons rfl .nil)) ?_
  refine W.seq ?_
  refine W.region ?_
  refine WL.assign rfl rfl ?_
  refine WL.nil ?_
  refine WX.next ?_
  refine W.sub [(0, _), (1, _)] (.cons rfl (.cons rfl .nil)) ?_
  refine W.seq ?_
  refine W.region ?_
  refine WL.move rfl rfl ?_
  refine WL.call Tryd.call40 rfl (isNaN_ok _ _) rfl ?_
  rintro _ _ ⟨rfl, rfl⟩
  refine WL.assign rfl rfl ?_
  refine WL.nil ?_
  refine WX.next ?_
  refine W.sub [(0, _), (1, _), (5, _)] (.cons rfl (.cons rfl (.cons rfl .nil))) ?_
  refine W.seq ?_
  refine W.region ?_
  refine WL.move rfl rfl ?_
  refine WL.call Tryd.call40 rfl (isNaN_ok _ _) rfl ?_
  rintro _ _ ⟨rfl, rfl⟩
  refine WL.assign rfl rfl ?_
  refine WL.nil ?_
  refine WX.next ?_
  refine W.sub [(0, _), (1, _), (5, _), (6, _)] (.cons rfl (.cons rfl (.cons rfl (.cons rfl .nil)))) ?_
  refine W.seq ?_
  refine W.seq ?_
  refine W.region ?_
  refine WL.move rfl rfl ?_
  refine WL.nil ?_
  refine WX.next ?_
  refine W.sub [(0, _), (1, _), (6, _), (11, _)] (.cons rfl (.cons rfl (.cons rfl (.cons rfl .nil)))) ?_
  refine W.ite rfl (fun c0 => ?_) (fun c0 => ?_)
  · exact c0.elim
  · refine W.skip ?_
    refine WX.next ?_
    refine W.seq ?_
    refine W.seq ?_
    refine W.region ?_
    refine WL.move rfl rfl ?_
    refine WL.nil ?_
    refine WX.next ?_
    refine W.sub [(0, _), (1, _), (13, _)] (.cons rfl (.cons rfl (.cons rfl .nil))) ?_
    refine W.ite rfl (fun c2 => ?_) (fun c2 => ?_)
    · exact c2.elim
    · refine W.skip ?_
      refine WX.next ?_
      refine W.seq ?_
      refine W.seq ?_
      refine W.region ?_
      refine WL.move rfl rfl ?_
      refine WL.move rfl rfl ?_
      refine WL.lss rfl rfl rfl ?_
      refine WL.nil ?_
      refine WX.next ?_
      refine W.sub [(0, _), (1, _), (16, _)] (.cons rfl (.cons rfl (.cons rfl .nil))) ?_
      refine W.ite rfl (fun c3 => ?_) (fun c3 => ?_)
      · refine W.seq ?_
        refine W.region ?_
        refine WL.assign rfl rfl ?_
        refine WL.nil ?_
        refine WX.next ?_
        refine W.sub [(4, _)] (.cons rfl .nil) ?_
        refine W.ret ?_
        refine WX.thenRet ?_
        refine WX.ret1 rfl rfl ?_
        exact ⟨by unfold cmpZ; rw [if_pos (by omega)], rfl⟩
      · refine W.skip ?_
        refine WX.next ?_
        refine W.seq ?_
        refine W.seq ?_
        refine W.region ?_
        refine WL.move rfl rfl ?_
        refine WL.move rfl rfl ?_
        refine WL.gtr rfl rfl rfl ?_
        refine WL.nil ?_
        refine WX.next ?_
        refine W.sub [(19, _)] (.cons rfl .nil) ?_
        refine W.ite rfl (fun c4 => ?_) (fun c4 => ?_)
        · refine W.seq ?_
          refine W.region ?_
          refine WL.assign rfl rfl ?_
          refine WL.nil ?_
          refine WX.next ?_
          refine W.sub [(4, _)] (.cons rfl .nil) ?_
          refine W.ret ?_
          refine WX.thenRet ?_
          refine WX.ret1 rfl rfl ?_
          exact ⟨by unfold cmpZ; rw [if_neg (by omega), if_pos (by omega)], rfl⟩
        · refine W.skip ?_
          refine WX.next ?_
          refine W.seq ?_
          refine W.region ?_
          refine WL.assign rfl rfl ?_
          refine WL.nil ?_
          refine WX.next ?_
          refine W.sub [(4, _)] (.cons rfl .nil) ?_
          refine W.ret ?_
          refine WX.ret1 rfl rfl ?_
          exact ⟨by unfold cmpZ; rw [if_neg (by omega), if_neg (by omega)], rfl⟩
theorem away_ok (x y : Int) (w : World) : Fn Tryd.prog 36 [.int .i64 x, .int .i64 y] w fun v w' => v = .int .i64 (awayZ x y) ∧ w' = w := by
  have M := Mem.refl w
  refine Fn.enter Tryd.func36 rfl Tryd.ntmps36 rfl ?_
  refine W.sub [(0, _), (1, _)] (.cons rfl (.cons rfl .nil)) ?_
  refine W.seq ?_
  refine W.region ?_
  refine WL.assign rfl rfl ?_
  refine WL.nil ?_
  refine WX.next ?_
  refine W.sub [(0, _), (1, _)] (.cons rfl (.cons rfl .nil)) ?_
  refine W.seq ?_
  refine W.seq ?_
  refine W.region ?_
  refine WL.move rfl rfl ?_
  refine WL.move rfl rfl ?_
  refine WL.eqI rfl rfl rfl ?_
  refine WL.nil ?_
  refine WX.next ?_
  refine W.sub [(7, _)] (.cons rfl .nil) ?_
  refine W.ite rfl (fun c0 => ?_) (fun c0 => ?_)
  · refine W.seq ?_
    refine W.region ?_
    refine WL.assign rfl rfl ?_
    refine WL.nil ?_
    refine WX.next ?_
    refine W.sub [(4, _)] (.cons rfl .nil) ?_
    refine W.ret ?_
    refine WX.thenRet ?_
    refine WX.ret1 rfl rfl ?_
    exact ⟨by unfold awayZ; rw [if_pos (by omega)], rfl⟩
  · refine W.skip ?_
    refine WX.next ?_
    refine W.seq ?_
    refine W.region ?_
    refine WL.assign rfl rfl ?_
    refine WL.nil ?_
    refine WX.next ?_
    refine W.sub [(4, _)] (.cons rfl .nil) ?_
    refine W.ret ?_
    refine WX.ret1 rfl rfl ?_
    exact ⟨by unfold awayZ; rw [if_neg (by omega)], rfl⟩
theorem Or_ok {A : Option Addr} {cap : Nat} {a b c : Int} {w0 : World} (h : RdL w0 intE A cap [a, b, c]) : Fn Tryd.prog 34 [.slice A 3 cap] w0 fun v w' => v = .int .i64 (orZ a b c) ∧ Mem w0 w' [] := by
  have M := Mem.refl w0
  obtain ⟨w, hw⟩ : ∃ w, w = w0 := ⟨w0, rfl⟩
  refine Fn.enter Tryd.func34 rfl Tryd.ntmps34 rfl ?_
  refine W.sub [(0, _)] (.cons rfl .nil) ?_
  refine W.seq ?_
  refine W.region ?_
  refine WL.assign rfl rfl ?_
  refine WL.nil ?_
  refine WX.next ?_
  refine W.sub [(0, _)] (.cons rfl .nil) ?_
  refine W.seq ?_
  refine W.region ?_
  refine WL.assign rfl rfl ?_
  refine WL.nil ?_
  refine WX.next ?_
  refine W.sub [(0, _), (3, _)] (.cons rfl (.cons rfl .nil)) ?_
  refine W.seq ?_
  refine W.seq ?_
  refine W.region ?_
  refine WL.move rfl rfl ?_
  refine WL.len Tryd.underlying22 rfl rfl ?_
  refine WL.move rfl rfl ?_
  refine WL.nil ?_
  refine WX.next ?_
  refine W.sub [(3, _), (6, _), (7, _), (8, _)] (.cons rfl (.cons rfl (.cons rfl (.cons rfl .nil)))) ?_
  refine W.block ?_
  refine W.loop (ι := Nat) (fun i => [(3, .int .i64 0), (6, .slice A 3 cap), (7, .int .i64 3), (8, .int .i64 (i : Int))]) (fun zz w => Mem w0 w ((fun _ => []) zz) ∧ (fun i => i ≤ 3 ∧ ∀ j, j < i → el [a, b, c] j = 0) zz) (fun i => 3 - i) (0) (by (repeat' (first | exact envSub.nil | refine envSub.cons ?_ ?_)) <;> first | rfl | (refine congrArg some ?_; refine congrArg (Value.int _) ?_; first | omega | (dsimp only; omega)) | (simp; done) | (refine congrArg some ?_; dsimp only; congr 1; omega) | (simp; omega)) ⟨M.sel (by first | ((repeat (first | with_reducible exact Sel.refl | with_reducible exact Sel.nil | with_reducible exact Del.here | with_reducible apply Del.there | with_reducible apply Sel.cons | with_reducible apply Sel.drop)); done) | (repeat (first | exact Sel.refl | exact Sel.nil | exact Del.here | apply Del.there | apply Sel.cons | apply Sel.drop))), ⟨Nat.zero_le _, fun j hj => absurd hj (Nat.not_lt_zero _)⟩⟩ ?_
  clear M; rintro (i) w ⟨M, ⟨hi, hz⟩⟩; dsimp only at M hi hz ⊢
  refine W.sub [(3, _), (6, _), (7, _), (8, _)] (.cons rfl (.cons rfl (.cons rfl (.cons rfl .nil)))) ?_
  refine W.seq ?_
  refine W.region ?_
  refine WL.lss rfl rfl rfl ?_
  refine WL.nil ?_
  refine WX.next ?_
  refine W.sub [(3, _), (6, _), (7, _), (8, _), (9, _)] (.cons rfl (.cons rfl (.cons rfl (.cons rfl (.cons rfl .nil))))) ?_
  refine W.seq ?_
  refine W.ite rfl (fun c0 => ?_) (fun c0 => ?_)
  · have hi3 : i < ([a, b, c] : List Int).length := by show i < 3; omega
    refine W.skip ?_
    refine WX.next ?_
    refine W.seq ?_
    refine W.block ?_
    refine W.seq ?_
    refine W.region ?_
    refine WL.idxA Tryd.underlying22 Tryd.sizeOf3 rfl rfl (RdL.isSome (E := intE) (by first | with_reducible assumption | with_reducible exact RdL.mem (by with_reducible assumption) M | exact M.rdL (by first | ((repeat (first | with_reducible exact Has.here | with_reducible refine Has.there ?_)); done) | (repeat (first | exact Has.here | refine Has.there ?_))) | exact RdLH.at (by assumption) (M.sel (by first | ((repeat (first | with_reducible exact Sel.refl | with_reducible exact Sel.nil | with_reducible exact Del.here | with_reducible apply Del.there | with_reducible apply Sel.cons | with_reducible apply Sel.drop)); done) | (repeat (first | exact Sel.refl | exact Sel.nil | exact Del.here | apply Del.there | apply Sel.cons | apply Sel.drop)))) | exact RdL.nil _ _ _) (by omega)) (by omega) (by omega) (by first | exact rfl | exact (Int.toNat_of_nonneg (by omega)).symm) rfl ?_
    refine WL.loadE0 (E := intE) Tryd.isAgg3 rfl (by first | with_reducible assumption | with_reducible exact RdL.mem (by with_reducible assumption) M | exact M.rdL (by first | ((repeat (first | with_reducible exact Has.here | with_reducible refine Has.there ?_)); done) | (repeat (first | exact Has.here | refine Has.there ?_))) | exact RdLH.at (by assumption) (M.sel (by first | ((repeat (first | with_reducible exact Sel.refl | with_reducible exact Sel.nil | with_reducible exact Del.here | with_reducible apply Del.there | with_reducible apply Sel.cons | with_reducible apply Sel.drop)); done) | (repeat (first | exact Sel.refl | exact Sel.nil | exact Del.here | apply Del.there | apply Sel.cons | apply Sel.drop)))) | exact RdL.nil _ _ _) (by omega) rfl rfl ?_
    refine WL.assign rfl rfl ?_
    refine WL.nil ?_
    refine WX.next ?_
    refine W.sub [(3, _), (5, _), (6, _), (7, _), (8, _)] (.cons rfl (.cons rfl (.cons rfl (.cons rfl (.cons rfl .nil))))) ?_
    refine W.seq ?_
    refine W.region ?_
    refine WL.move rfl rfl ?_
    refine WL.move rfl rfl ?_
    refine WL.neI rfl rfl rfl ?_
    refine WL.nil ?_
    refine WX.next ?_
    refine W.sub [(3, _), (5, _), (6, _), (7, _), (8, _), (14, _)] (.cons rfl (.cons rfl (.cons rfl (.cons rfl (.cons rfl (.cons rfl .nil)))))) ?_
    refine W.ite rfl (fun c1 => ?_) (fun c1 => ?_)
    · refine W.seq ?_
      refine W.region ?_
      refine WL.move rfl rfl ?_
      refine WL.assign rfl rfl ?_
      refine WL.nil ?_
      refine WX.next ?_
      refine W.sub [(2, _)] (.cons rfl .nil) ?_
      refine W.ret ?_
      refine WX.blockRet ?_
      refine WX.thenRet ?_
      refine WX.thenRet ?_
      refine WX.blockRet ?_
      refine WX.thenRet ?_
      refine WX.ret1 rfl rfl ?_
      have e : el [a, b, c] i = orZ a b c := by
        match i, hi3, hz, c1 with
        | 0, _, _, c1 => unfold orZ; rw [if_pos (show a ≠ 0 from c1)]; rfl
        | 1, _, hz, c1 => unfold orZ; rw [if_neg (fun q => q (hz 0 (by decide))), if_pos (show b ≠ 0 from c1)]; rfl
        | 2, _, hz, c1 => unfold orZ; rw [if_neg (fun q => q (hz 0 (by decide))), if_neg (fun q => q (hz 1 (by decide)))]; rfl
      exact ⟨by rw [e], M.sel (by first | ((repeat (first | with_reducible exact Sel.refl | with_reducible exact Sel.nil | with_reducible exact Del.here | with_reducible apply Del.there | with_reducible apply Sel.cons | with_reducible apply Sel.drop)); done) | (repeat (first | exact Sel.refl | exact Sel.nil | exact Del.here | apply Del.there | apply Sel.cons | apply Sel.drop)))⟩
    · refine W.skip ?_
      refine WX.blockNormal ?_
      refine WX.next ?_
      refine W.region ?_
      refine WL.add rfl rfl (by first | exact wI64 (by omega) | rfl) rfl ?_
      refine WL.move rfl rfl ?_
      refine WL.nil ?_
      skip
      have q : ∀ j, j < i + 1 → el [a, b, c] j = 0 := by
        intro j hj
        rcases Nat.lt_or_ge j i with h | h
        · exact hz j h
        · obtain rfl : j = i := by omega
          exact Classical.not_not.1 c1
      refine WX.round (i + 1) (by (repeat' (first | exact envSub.nil | refine envSub.cons ?_ ?_)) <;> first | rfl | (refine congrArg some ?_; refine congrArg (Value.int _) ?_; first | omega | (dsimp only; omega)) | (simp; done) | (refine congrArg some ?_; dsimp only; congr 1; omega) | (simp; omega)) ⟨M.sel (by first | ((repeat (first | with_reducible exact Sel.refl | with_reducible exact Sel.nil | with_reducible exact Del.here | with_reducible apply Del.there | with_reducible apply Sel.cons | with_reducible apply Sel.drop)); done) | (repeat (first | exact Sel.refl | exact Sel.nil | exact Del.here | apply Del.there | apply Sel.cons | apply Sel.drop))), ⟨by omega, q⟩⟩ (by first | omega | (dsimp only; omega))
  · refine W.exit ?_
    refine WX.thenExit ?_
    refine WX.thenExit ?_
    refine WX.blockHere ?_
    refine WX.next ?_
    refine W.seq ?_
    refine W.region ?_
    refine WL.move rfl rfl ?_
    refine WL.assign rfl rfl ?_
    refine WL.nil ?_
    refine WX.next ?_
    refine W.sub [(2, _)] (.cons rfl .nil) ?_
    refine W.ret ?_
    refine WX.ret1 rfl rfl ?_
    obtain rfl : i = 3 := by omega
    exact ⟨by unfold orZ; rw [if_neg (fun q => q (hz 0 (by decide))), if_neg (fun q => q (hz 1 (by decide)))]; exact congrArg (Value.int _) (hz 2 (by decide)).symm, M.sel (by first | ((repeat (first | with_reducible exact Sel.refl | with_reducible exact Sel.nil | with_reducible exact Del.here | with_reducible apply Del.there | with_reducible apply Sel.cons | with_reducible apply Sel.drop)); done) | (repeat (first | exact Sel.refl | exact Sel.nil | exact Del.here | apply Del.there | apply Sel.cons | apply Sel.drop)))⟩
end Go.Proofs.YtmkhggfcgblefaaDoor
