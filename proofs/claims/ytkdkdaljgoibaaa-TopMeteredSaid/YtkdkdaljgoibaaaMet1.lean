/-
  Walks: a bucket (New, one tick, one token), Mul64 of small numbers; are places the same (seawallref16).
-/
import Derived.Test.YtkdkdaljgoibaaaHeal4
namespace Go.Proofs.Ytkdkdaljgoibaaa
open Go Go.RowKit Bin

theorem and32 (x : Nat) (h : x < 4294967296) : bits .and .u64 (x : Int) 4294967295 = (x : Int) := by
  have := andU64 x 4294967295 (by omega) (by omega)
  rw [show x &&& 4294967295 = x from by rw [show (4294967295 : Nat) = 2 ^ 32 - 1 from rfl, Nat.and_two_pow_sub_one_eq_mod]; exact Nat.mod_eq_of_lt h] at this
  exact this
theorem Mul64_ok (x y : Nat) (hx : x < 60000) (hy : y < 60000) (w : World) : Fn Try.prog 23 [.int .u64 (x : Int), .int .u64 (y : Int)] w fun v w' => v = .tuple #[.int .u64 0, .int .u64 ((x * y : Nat) : Int)] ∧ w' = w := by
  have M := Mem.refl w
  have hp : x * y < 4294967296 := Nat.lt_of_le_of_lt (Nat.mul_le_mul (Nat.le_of_lt hx) (Nat.le_of_lt hy)) (by decide)
  obtain ⟨p, hpe⟩ : ∃ p, p = x * y := ⟨_, rfl⟩
  rw [← hpe] at hp ⊢
  have hm : IntKind.u64.wrap ((x : Int) * (y : Int)) = (p : Int) := by
    rw [← Int.natCast_mul, ← hpe]
    exact wU64 (by omega)
  have hx1 : (x : Int) / 4294967296 = 0 := by omega
  have hy1 : (y : Int) / 4294967296 = 0 := by omega
  have hp1 : (p : Int) / 4294967296 = 0 := by omega
  refine Fn.enter Try.func23 rfl Try.ntmps23 rfl ?_
  refine W.sub [(0, _), (1, _)] (.cons rfl (.cons rfl .nil)) ?_
  refine W.seq ?_
  refine W.region ?_
  refine WL.assign rfl rfl ?_
  refine WL.assign rfl rfl ?_
  refine WL.nil ?_
  refine WX.next ?_
  refine W.sub [(0, _), (1, _)] (.cons rfl (.cons rfl .nil)) ?_
  refine W.seq ?_
  refine W.region ?_
  refine WL.move rfl rfl ?_
  refine WL.band rfl rfl (and32 x (by omega)) rfl ?_
  refine WL.assign rfl rfl ?_
  refine WL.nil ?_
  refine WX.next ?_
  refine W.sub [(0, _), (1, _), (6, _)] (.cons rfl (.cons rfl (.cons rfl .nil))) ?_
  refine W.seq ?_
  refine W.region ?_
  refine WL.move rfl rfl ?_
  refine WL.shrC rfl rfl 32 rfl rfl 4294967296 rfl rfl ?_
  rw [hx1]
  refine WL.assign rfl rfl ?_
  refine WL.nil ?_
  refine WX.next ?_
  refine W.sub [(0, _), (1, _), (6, _), (7, _)] (.cons rfl (.cons rfl (.cons rfl (.cons rfl .nil)))) ?_
  refine W.seq ?_
  refine W.region ?_
  refine WL.move rfl rfl ?_
  refine WL.band rfl rfl (and32 y (by omega)) rfl ?_
  refine WL.assign rfl rfl ?_
  refine WL.nil ?_
  refine WX.next ?_
  refine W.sub [(0, _), (1, _), (6, _), (7, _), (8, _)] (.cons rfl (.cons rfl (.cons rfl (.cons rfl (.cons rfl .nil))))) ?_
  refine W.seq ?_
  refine W.region ?_
  refine WL.move rfl rfl ?_
  refine WL.shrC rfl rfl 32 rfl rfl 4294967296 rfl rfl ?_
  rw [hy1]
  refine WL.assign rfl rfl ?_
  refine WL.nil ?_
  refine WX.next ?_
  refine W.sub [(0, _), (1, _), (6, _), (7, _), (8, _), (9, _)] (.cons rfl (.cons rfl (.cons rfl (.cons rfl (.cons rfl (.cons rfl .nil)))))) ?_
  refine W.seq ?_
  refine W.region ?_
  refine WL.move rfl rfl ?_
  refine WL.move rfl rfl ?_
  refine WL.mul rfl rfl hm rfl ?_
  refine WL.assign rfl rfl ?_
  refine WL.nil ?_
  refine WX.next ?_
  refine W.sub [(0, _), (1, _), (6, _), (7, _), (8, _), (9, _), (10, _)] (.cons rfl (.cons rfl (.cons rfl (.cons rfl (.cons rfl (.cons rfl (.cons rfl .nil))))))) ?_
  refine W.seq ?_
  refine W.region ?_
  refine WL.move rfl rfl ?_
  refine WL.move rfl rfl ?_
  refine WL.mul rfl rfl (show IntKind.u64.wrap (0 * (y : Int)) = 0 by rw [Int.zero_mul]; rfl) rfl ?_
  refine WL.move rfl rfl ?_
  refine WL.shrC rfl rfl 32 rfl rfl 4294967296 rfl rfl ?_
  rw [hp1]
  refine WL.add rfl rfl (show IntKind.u64.wrap (0 + 0) = 0 from rfl) rfl ?_
  refine WL.assign rfl rfl ?_
  refine WL.nil ?_
  refine WX.next ?_
  refine W.sub [(0, _), (1, _), (6, _), (7, _), (9, _), (11, _)] (.cons rfl (.cons rfl (.cons rfl (.cons rfl (.cons rfl (.cons rfl .nil)))))) ?_
  refine W.seq ?_
  refine W.region ?_
  refine WL.move rfl rfl ?_
  refine WL.band rfl rfl (show bits .and .u64 0 4294967295 = 0 from rfl) rfl ?_
  refine WL.assign rfl rfl ?_
  refine WL.nil ?_
  refine WX.next ?_
  refine W.sub [(0, _), (1, _), (6, _), (7, _), (9, _), (11, _), (12, _)] (.cons rfl (.cons rfl (.cons rfl (.cons rfl (.cons rfl (.cons rfl (.cons rfl .nil))))))) ?_
  refine W.seq ?_
  refine W.region ?_
  refine WL.move rfl rfl ?_
  refine WL.shrC rfl rfl 32 rfl rfl 4294967296 rfl rfl ?_
  refine WL.assign rfl rfl ?_
  refine WL.nil ?_
  refine WX.next ?_
  refine W.sub [(0, _), (1, _), (6, _), (7, _), (9, _), (12, _), (13, _)] (.cons rfl (.cons rfl (.cons rfl (.cons rfl (.cons rfl (.cons rfl (.cons rfl .nil))))))) ?_
  refine W.seq ?_
  refine W.region ?_
  refine WL.move rfl rfl ?_
  refine WL.move rfl rfl ?_
  refine WL.move rfl rfl ?_
  refine WL.mul rfl rfl (show IntKind.u64.wrap ((x : Int) * 0) = 0 by rw [Int.mul_zero]; rfl) rfl ?_
  refine WL.add rfl rfl (show IntKind.u64.wrap (0 + 0) = 0 from rfl) rfl ?_
  refine WL.assign rfl rfl ?_
  refine WL.nil ?_
  refine WX.next ?_
  refine W.sub [(0, _), (1, _), (7, _), (9, _), (12, _), (13, _)] (.cons rfl (.cons rfl (.cons rfl (.cons rfl (.cons rfl (.cons rfl .nil)))))) ?_
  refine W.seq ?_
  refine W.region ?_
  refine WL.move rfl rfl ?_
  refine WL.move rfl rfl ?_
  refine WL.mul rfl rfl (show IntKind.u64.wrap (0 * 0) = 0 from rfl) rfl ?_
  refine WL.move rfl rfl ?_
  refine WL.add rfl rfl (show IntKind.u64.wrap (0 + 0) = 0 from rfl) rfl ?_
  refine WL.move rfl rfl ?_
  refine WL.shrC rfl rfl 32 rfl rfl 4294967296 rfl rfl ?_
  refine WL.add rfl rfl (show IntKind.u64.wrap (0 + 0) = 0 from rfl) rfl ?_
  refine WL.assign rfl rfl ?_
  refine WL.nil ?_
  refine WX.next ?_
  refine W.sub [(0, _), (1, _), (4, _)] (.cons rfl (.cons rfl (.cons rfl .nil))) ?_
  refine W.seq ?_
  refine W.region ?_
  refine WL.move rfl rfl ?_
  refine WL.move rfl rfl ?_
  refine WL.mul rfl rfl hm rfl ?_
  refine WL.assign rfl rfl ?_
  refine WL.nil ?_
  refine WX.next ?_
  refine W.sub [(4, _), (5, _)] (.cons rfl (.cons rfl .nil)) ?_
  refine W.ret ?_
  refine WX.ret2 rfl rfl rfl ?_
  exact ⟨rfl, rfl⟩
theorem BNew_ok (r n : Nat) (hr : r ≤ 1000000) (hn : 1 ≤ n ∧ n ≤ 1000000) (w0 : World) : Fn Try.prog 4 [.int .i64 (r : Int), .int .i64 (n : Int)] w0 fun v w' => ∃ g, v = .tuple #[.pointer (some ⟨g, 0, none⟩), .int .i64 0] ∧ Mem w0 w' [Asr.row g 42 [.int .i64 (r : Int), .int .i64 (n : Int), .int .i64 (n : Int)]] := by
  have M := Mem.refl w0
  obtain ⟨w, hw⟩ : ∃ w, w = w0 := ⟨w0, rfl⟩
  refine Fn.enter Try.func4 rfl Try.ntmps4 rfl ?_
  refine W.sub [(0, _), (1, _)] (.cons rfl (.cons rfl .nil)) ?_
  refine W.seq ?_
  refine W.region ?_
  refine WL.assign rfl rfl ?_
  refine WL.assign rfl rfl ?_
  refine WL.nil ?_
  refine WX.next ?_
  refine W.sub [(0, _), (1, _)] (.cons rfl (.cons rfl .nil)) ?_
  refine W.seq ?_
  refine W.seq ?_
  refine W.region ?_
  refine WL.move rfl rfl ?_
  refine WL.lss rfl rfl rfl ?_
  refine WL.moveIf rfl rfl (fun c0 => ?_) (fun c0 => ?_)
  · exact absurd c0 (by omega)
  · refine WL.on rfl rfl ?_
    refine WL.move rfl rfl ?_
    refine WL.on rfl rfl ?_
    refine WL.gtr rfl rfl rfl ?_
    refine WL.pickF rfl rfl rfl ?_
    refine WL.moveIf rfl rfl (fun c1 => ?_) (fun c1 => ?_)
    · exact absurd c1 (by omega)
    · refine WL.on rfl rfl ?_
      refine WL.move rfl rfl ?_
      refine WL.on rfl rfl ?_
      refine WL.lss rfl rfl rfl ?_
      refine WL.pickF rfl rfl rfl ?_
      refine WL.moveIf rfl rfl (fun c2 => ?_) (fun c2 => ?_)
      · exact absurd c2 (by omega)
      · refine WL.on rfl rfl ?_
        refine WL.move rfl rfl ?_
        refine WL.on rfl rfl ?_
        refine WL.gtr rfl rfl rfl ?_
        refine WL.pickF rfl rfl rfl ?_
        refine WL.nil ?_
        refine WX.next ?_
        refine W.sub [(0, _), (1, _), (19, _)] (.cons rfl (.cons rfl (.cons rfl .nil))) ?_
        refine W.ite rfl (fun c3 => ?_) (fun c3 => ?_)
        · exact absurd c3 (by omega)
        · refine W.skip ?_
          refine WX.next ?_
          refine W.seq ?_
          refine W.region ?_
          refine WL.move rfl rfl ?_
          refine WL.move rfl rfl ?_
          refine WL.move rfl rfl ?_
          refine WL.buildP (places := #[(0, 1), (1, 1), (2, 1)]) Try.underlying42 Try.zeroValue42 (fun _ => by simp [Try.sizeOf3, Try.sizeOf3, Try.sizeOf3]) rfl (by repeat (first | exact Puts.nil | exact SetAt.zero | apply SetAt.succ | apply Puts.cons rfl rfl)) rfl ?_
          refine WL.box rfl M rfl ?_
          intro g3_4 w M
          try simp only [Value.cells] at M
          try simp only [List.toList_toArray] at M
          refine WL.assign rfl rfl ?_
          refine WL.assign rfl rfl ?_
          refine WL.nil ?_
          refine WX.next ?_
          refine W.sub [(4, _), (5, _)] (.cons rfl (.cons rfl .nil)) ?_
          refine W.ret ?_
          refine WX.ret2 rfl rfl rfl ?_
          exact ⟨g3_4, rfl, M.sel (by first | ((repeat (first | with_reducible exact Sel.refl | with_reducible exact Sel.nil | with_reducible exact Del.here | with_reducible apply Del.there | with_reducible apply Sel.cons | with_reducible apply Sel.drop)); done) | (repeat (first | exact Sel.refl | exact Sel.nil | exact Del.here | apply Del.there | apply Sel.cons | apply Sel.drop)))⟩
theorem BTake_ok (g r n lv : Nat) (hl : lv ≤ 1000000) (w0 w : World) (L L' : List Asr) (M : Mem w0 w L) (hd : Del (Asr.row g 42 [.int .i64 (r : Int), .int .i64 (n : Int), .int .i64 (lv : Int)]) L L') : Fn Try.prog 8 [.pointer (some ⟨g, 0, none⟩), .int .i64 1] w fun v w' => v = .bool (decide (1 ≤ lv)) ∧ Mem w0 w' (Asr.row g 42 [.int .i64 (r : Int), .int .i64 (n : Int), .int .i64 ((lv - 1 : Nat) : Int)] :: L') := by
  have M1 := M.del hd
  replace M := M1
  refine Fn.enter Try.func8 rfl Try.ntmps8 rfl ?_
  refine W.sub [(0, _), (1, _)] (.cons rfl (.cons rfl .nil)) ?_
  refine W.seq ?_
  refine W.region ?_
  refine WL.assign rfl rfl ?_
  refine WL.nil ?_
  refine WX.next ?_
  refine W.sub [(0, _), (1, _)] (.cons rfl (.cons rfl .nil)) ?_
  refine W.seq ?_
  refine W.seq ?_
  refine W.region ?_
  refine WL.move rfl rfl ?_
  refine WL.eqNilF Try.underlying26 rfl rfl rfl ?_
  refine WL.move rfl rfl ?_
  refine WL.on rfl rfl ?_
  refine WL.move rfl rfl ?_
  refine WL.on rfl rfl ?_
  refine WL.lss rfl rfl rfl ?_
  refine WL.pickF rfl rfl rfl ?_
  refine WL.moveIf rfl rfl (fun c1 => ?_) (fun c1 => ?_)
  · exact absurd c1 (by omega)
  · refine WL.on rfl rfl ?_
    refine WL.move rfl rfl ?_
    refine WL.on rfl rfl ?_
    refine WL.move rfl rfl ?_
    refine WL.on rfl rfl ?_
    refine WL.nilCheck rfl rfl ?_
    refine WL.on rfl rfl ?_
    refine WL.fieldR (off := 2) Try.underlying42 rfl rfl Try.sizeOf3 rfl rfl rfl ?_
    refine WL.on rfl rfl ?_
    refine WL.loadR Try.isAgg3 rfl M (by first | ((repeat (first | with_reducible exact Has.here | with_reducible refine Has.there ?_)); done) | (repeat (first | exact Has.here | refine Has.there ?_))) rfl rfl ?_
    refine WL.on rfl rfl ?_
    refine WL.gtr rfl rfl rfl ?_
    refine WL.pickF rfl rfl rfl ?_
    refine WL.nil ?_
    refine WX.next ?_
    refine W.sub [(0, _), (1, _), (18, _)] (.cons rfl (.cons rfl (.cons rfl .nil))) ?_
    refine W.ite rfl (fun c2 => ?_) (fun c2 => ?_)
    · refine W.seq ?_
      refine W.region ?_
      refine WL.assign rfl rfl ?_
      refine WL.nil ?_
      refine WX.next ?_
      refine W.sub [(4, _)] (.cons rfl .nil) ?_
      refine W.ret ?_
      refine WX.thenRet ?_
      refine WX.ret1 rfl rfl ?_
      obtain rfl : lv = 0 := by omega
      exact ⟨rfl, M⟩
    · refine W.skip ?_
      refine WX.next ?_
      refine W.seq ?_
      refine W.region ?_
      refine WL.move rfl rfl ?_
      refine WL.nilCheck rfl rfl ?_
      refine WL.fieldR (off := 2) Try.underlying42 rfl rfl Try.sizeOf3 rfl rfl rfl ?_
      refine WL.loadR Try.isAgg3 rfl M (by first | ((repeat (first | with_reducible exact Has.here | with_reducible refine Has.there ?_)); done) | (repeat (first | exact Has.here | refine Has.there ?_))) rfl rfl ?_
      refine WL.move rfl rfl ?_
      refine WL.sub' rfl rfl (show IntKind.i64.wrap ((lv : Int) - 1) = ((lv - 1 : Nat) : Int) by rw [wI64 (by omega)]; omega) rfl ?_
      refine WL.nilCheck rfl rfl ?_
      refine WL.fieldR (off := 2) Try.underlying42 rfl rfl Try.sizeOf3 rfl rfl rfl ?_
      refine WL.storeR Try.sizeOf3 rfl rfl rfl M (by first | ((repeat (first | with_reducible exact Has.here | with_reducible refine Has.there ?_)); done) | (repeat (first | exact Has.here | refine Has.there ?_))) (by repeat (first | exact SetAt.zero | apply SetAt.succ)) (by first | ((repeat (first | with_reducible exact Upd.here | with_reducible apply Upd.there)); done) | (repeat (first | exact Upd.here | apply Upd.there))) ?_
      intro w M
      refine WL.nil ?_
      refine WX.next ?_
      refine W.sub [] .nil ?_
      refine W.seq ?_
      refine W.region ?_
      refine WL.assign rfl rfl ?_
      refine WL.nil ?_
      refine WX.next ?_
      refine W.sub [(4, _)] (.cons rfl .nil) ?_
      refine W.ret ?_
      refine WX.ret1 rfl rfl ?_
      exact ⟨by rw [decide_eq_true (by omega)], M.sel (by first | ((repeat (first | with_reducible exact Sel.refl | with_reducible exact Sel.nil | with_reducible exact Del.here | with_reducible apply Del.there | with_reducible apply Sel.cons | with_reducible apply Sel.drop)); done) | (repeat (first | exact Sel.refl | exact Sel.nil | exact Del.here | apply Del.there | apply Sel.cons | apply Sel.drop)))⟩
theorem BTick_ok (g r n lv : Nat) (hr : r < 60000) (hn : n ≤ 1000000) (hl : lv ≤ n) (w0 w : World) (L L' : List Asr) (M : Mem w0 w L) (hd : Del (Asr.row g 42 [.int .i64 (r : Int), .int .i64 (n : Int), .int .i64 (lv : Int)]) L L') : Fn Try.prog 9 [.pointer (some ⟨g, 0, none⟩), .int .i64 1] w fun _ w' => Mem w0 w' (Asr.row g 42 [.int .i64 (r : Int), .int .i64 (n : Int), .int .i64 ((min n (lv + min r n) : Nat) : Int)] :: L') := by
  have M1 := M.del hd
  replace M := M1
  refine Fn.enter Try.func9 rfl Try.ntmps9 rfl ?_
  refine W.sub [(0, _), (1, _)] (.cons rfl (.cons rfl .nil)) ?_
  refine W.seq ?_
  refine W.seq ?_
  refine W.region ?_
  refine WL.move rfl rfl ?_
  refine WL.eqNilF Try.underlying26 rfl rfl rfl ?_
  refine WL.move rfl rfl ?_
  refine WL.on rfl rfl ?_
  refine WL.move rfl rfl ?_
  refine WL.on rfl rfl ?_
  refine WL.lss rfl rfl rfl ?_
  refine WL.pickF rfl rfl rfl ?_
  refine WL.nil ?_
  refine WX.next ?_
  refine W.sub [(0, _), (1, _), (11, _)] (.cons rfl (.cons rfl (.cons rfl .nil))) ?_
  refine W.ite rfl (fun c1 => ?_) (fun c1 => ?_)
  · exact absurd c1 (by omega)
  · refine W.skip ?_
    refine WX.next ?_
    refine W.seq ?_
    refine W.region ?_
    refine WL.move rfl rfl ?_
    refine WL.conv Try.underlying3 Try.underlying62 rfl (by first | exact wU64 (by omega) | exact mU64 _ | rfl) rfl ?_
    refine WL.move rfl rfl ?_
    refine WL.nilCheck rfl rfl ?_
    refine WL.fieldR (off := 0) Try.underlying42 rfl rfl Try.sizeOf3 rfl rfl rfl ?_
    refine WL.loadR Try.isAgg3 rfl M (by first | ((repeat (first | with_reducible exact Has.here | with_reducible refine Has.there ?_)); done) | (repeat (first | exact Has.here | refine Has.there ?_))) rfl rfl ?_
    refine WL.conv Try.underlying3 Try.underlying62 rfl (by first | exact wU64 (by omega) | exact mU64 _ | rfl) rfl ?_
    refine WL.call Try.call23 rfl (Mul64_ok 1 r (by omega) hr _) rfl ?_
    rintro _ _ ⟨rfl, rfl⟩
    rw [Nat.one_mul]
    refine WL.move rfl rfl ?_
    refine WL.extractL rfl rfl rfl ?_
    refine WL.extractL rfl rfl rfl ?_
    refine WL.assign rfl rfl ?_
    refine WL.assign rfl rfl ?_
    refine WL.nil ?_
    refine WX.next ?_
    refine W.sub [(0, _), (4, _), (5, _)] (.cons rfl (.cons rfl (.cons rfl .nil))) ?_
    refine W.joint (fun (m : Int) => [(0, .pointer (some ⟨g, 0, none⟩)), (5, .int .u64 m)]) (fun zj w => Mem w0 w ((fun _ => Asr.row g 42 [.int .i64 (r : Int), .int .i64 (n : Int), .int .i64 (lv : Int)] :: L') zj) ∧ (fun m => m = ((min r n : Nat) : Int)) zj) ?_ ?_
    · refine W.seq ?_
      refine W.region ?_
      refine WL.move rfl rfl ?_
      refine WL.gtr rfl rfl rfl ?_
      refine WL.moveIf rfl rfl (fun c2 => ?_) (fun c2 => ?_)
      · exact absurd c2 (by omega)
      · refine WL.on rfl rfl ?_
        refine WL.move rfl rfl ?_
        refine WL.on rfl rfl ?_
        refine WL.move rfl rfl ?_
        refine WL.on rfl rfl ?_
        refine WL.nilCheck rfl rfl ?_
        refine WL.on rfl rfl ?_
        refine WL.fieldR (off := 1) Try.underlying42 rfl rfl Try.sizeOf3 rfl rfl rfl ?_
        refine WL.on rfl rfl ?_
        refine WL.loadR Try.isAgg3 rfl M (by first | ((repeat (first | with_reducible exact Has.here | with_reducible refine Has.there ?_)); done) | (repeat (first | exact Has.here | refine Has.there ?_))) rfl rfl ?_
        refine WL.on rfl rfl ?_
        refine WL.conv Try.underlying3 Try.underlying62 rfl (by first | exact wU64 (by omega) | exact mU64 _ | rfl) rfl ?_
        refine WL.on rfl rfl ?_
        refine WL.gtr rfl rfl rfl ?_
        refine WL.pickF rfl rfl rfl ?_
        refine WL.nil ?_
        refine WX.next ?_
        refine W.sub [(0, _), (5, _), (33, _)] (.cons rfl (.cons rfl (.cons rfl .nil))) ?_
        refine W.ite rfl (fun c3 => ?_) (fun c3 => ?_)
        · refine W.region ?_
          refine WL.move rfl rfl ?_
          refine WL.nilCheck rfl rfl ?_
          refine WL.fieldR (off := 1) Try.underlying42 rfl rfl Try.sizeOf3 rfl rfl rfl ?_
          refine WL.loadR Try.isAgg3 rfl M (by first | ((repeat (first | with_reducible exact Has.here | with_reducible refine Has.there ?_)); done) | (repeat (first | exact Has.here | refine Has.there ?_))) rfl rfl ?_
          refine WL.conv Try.underlying3 Try.underlying62 rfl (by first | exact wU64 (by omega) | exact mU64 _ | rfl) rfl ?_
          refine WL.assign rfl rfl ?_
          refine WL.nil ?_
          refine WX.join ((n : Int)) (by (repeat' (first | exact envSub.nil | refine envSub.cons ?_ ?_)) <;> first | rfl | (refine congrArg some ?_; refine congrArg (Value.int _) ?_; first | omega | (dsimp only; omega)) | (simp; done) | (refine congrArg some ?_; dsimp only; congr 1; omega) | (simp; omega)) ⟨M.sel (by first | ((repeat (first | with_reducible exact Sel.refl | with_reducible exact Sel.nil | with_reducible exact Del.here | with_reducible apply Del.there | with_reducible apply Sel.cons | with_reducible apply Sel.drop)); done) | (repeat (first | exact Sel.refl | exact Sel.nil | exact Del.here | apply Del.there | apply Sel.cons | apply Sel.drop))), (by omega)⟩
        · refine W.skip ?_
          refine WX.join ((r : Int)) (by (repeat' (first | exact envSub.nil | refine envSub.cons ?_ ?_)) <;> first | rfl | (refine congrArg some ?_; refine congrArg (Value.int _) ?_; first | omega | (dsimp only; omega)) | (simp; done) | (refine congrArg some ?_; dsimp only; congr 1; omega) | (simp; omega)) ⟨M.sel (by first | ((repeat (first | with_reducible exact Sel.refl | with_reducible exact Sel.nil | with_reducible exact Del.here | with_reducible apply Del.there | with_reducible apply Sel.cons | with_reducible apply Sel.drop)); done) | (repeat (first | exact Sel.refl | exact Sel.nil | exact Del.here | apply Del.there | apply Sel.cons | apply Sel.drop))), (by omega)⟩
    clear M; rintro (m) w ⟨M, hm⟩; dsimp only at M hm ⊢
    refine W.sub [(0, _), (5, _)] (.cons rfl (.cons rfl .nil)) ?_
    subst hm
    refine W.drawM (Asr.row g 42 [.int .i64 (r : Int), .int .i64 (n : Int), .int .i64 (lv : Int)] :: L') (by kernel_rfl) (fun j => [4, 8, 11].contains j) M (by first | ((repeat (first | with_reducible exact Sel.refl | with_reducible exact Sel.nil | with_reducible exact Del.here | with_reducible apply Del.there | with_reducible apply Sel.cons | with_reducible apply Sel.drop)); done) | (repeat (first | exact Sel.refl | exact Sel.nil | exact Del.here | apply Del.there | apply Sel.cons | apply Sel.drop))) ?_
    clear M; intro M
    apply DG.pure_ [0, 1, 2, 3, 5, 6, 7, 9, 10] 7 rfl (by kernel_rfl) (by kernel_rfl)
    · intro w
      refine WL.move rfl rfl ?_
      refine WL.move rfl rfl ?_
      refine WL.nilCheck rfl rfl ?_
      refine WL.fieldR (off := 1) Try.underlying42 rfl rfl Try.sizeOf3 rfl rfl rfl ?_
      refine WL.move rfl rfl ?_
      refine WL.nilCheck rfl rfl ?_
      refine WL.fieldR (off := 2) Try.underlying42 rfl rfl Try.sizeOf3 rfl rfl rfl ?_
      refine WL.move rfl rfl ?_
      refine WL.conv Try.underlying62 Try.underlying3 rfl (by first | exact wI64 (by omega) | rfl) rfl ?_
      exact Chain.end_ rfl
    apply DG.take [4, 8, 11, 12, 13, 14] 1 rfl (by kernel_rfl) (by kernel_rfl) (M.sel (by first | ((repeat (first | with_reducible exact Sel.refl | with_reducible exact Sel.nil | with_reducible exact Del.here | with_reducible apply Del.there | with_reducible apply Sel.cons | with_reducible apply Sel.drop)); done) | (repeat (first | exact Sel.refl | exact Sel.nil | exact Del.here | apply Del.there | apply Sel.cons | apply Sel.drop))))
    · intro w M
      refine WL.loadR Try.isAgg3 rfl M (by first | ((repeat (first | with_reducible exact Has.here | with_reducible refine Has.there ?_)); done) | (repeat (first | exact Has.here | refine Has.there ?_))) rfl rfl ?_
      refine WL.loadR Try.isAgg3 rfl M (by first | ((repeat (first | with_reducible exact Has.here | with_reducible refine Has.there ?_)); done) | (repeat (first | exact Has.here | refine Has.there ?_))) rfl rfl ?_
      refine WL.add rfl rfl (by first | exact wI64 (by omega) | rfl) rfl ?_
      refine WL.min rfl rfl rfl ?_
      have e : min (n : Int) ((lv : Int) + ((min r n : Nat) : Int)) = ((min n (lv + min r n) : Nat) : Int) := by omega
      rw [e]
      refine WL.nilCheck rfl rfl ?_
      refine WL.fieldR (off := 2) Try.underlying42 rfl rfl Try.sizeOf3 rfl rfl rfl ?_
      exact Chain.end_ rfl
    refine DG.step 15 0 rfl (by kernel_rfl) ?_
    refine WL.storeR Try.sizeOf3 rfl rfl rfl M (by first | ((repeat (first | with_reducible exact Has.here | with_reducible refine Has.there ?_)); done) | (repeat (first | exact Has.here | refine Has.there ?_))) (by repeat (first | exact SetAt.zero | apply SetAt.succ)) (by first | ((repeat (first | with_reducible exact Upd.here | with_reducible apply Upd.there)); done) | (repeat (first | exact Upd.here | apply Upd.there))) ?_
    intro w M
    refine DG.go (G := fun j => [4, 8, 11].contains j) (i := 15) (f' := 0) (done := [0, 1, 2, 3, 5, 6, 7, 9, 10, 4, 8, 11, 12, 13, 14]) (fun h => by cases h) ?_
    refine DG.end_ (by kernel_rfl) ?_
    refine WX.end0 rfl ?_
    exact M.sel (by first | ((repeat (first | with_reducible exact Sel.refl | with_reducible exact Sel.nil | with_reducible exact Del.here | with_reducible apply Del.there | with_reducible apply Sel.cons | with_reducible apply Sel.drop)); done) | (repeat (first | exact Sel.refl | exact Sel.nil | exact Del.here | apply Del.there | apply Sel.cons | apply Sel.drop)))
theorem Same16_ok {A B : Option Addr} {ca cb : Nat} {xs ys : List PlX} (hk : xs.map PlX.key = ys.map PlX.key) (hl : xs.length ≤ 1000) (hn : ∀ p ∈ xs, p.nodes.length ≤ 1000) {w0 : World} (ha : RdP w0 A ca xs) (hb : RdP w0 B cb ys) :
    Fn Try.prog 10 [.slice A xs.length ca, .slice B ys.length cb] w0 fun v w' => v = .bool true ∧ Mem w0 w' [] := by
  have M := Mem.refl w0
  obtain ⟨w, hw⟩ : ∃ w, w = w0 := ⟨w0, rfl⟩
  have hle : xs.length = ys.length := by have := congrArg List.length hk; simpa using this
  have hel : ∀ i, i < xs.length → (el xs i).chunk = (el ys i).chunk ∧ (el xs i).nodes = (el ys i).nodes := by
    intro i hi
    have h1 := congrArg (fun l => el l i) hk
    rw [el_key hi, el_key (by omega)] at h1
    unfold PlX.key at h1
    exact ⟨congrArg Pl.chunk h1, congrArg Pl.nodes h1⟩
  have ha1 := ha.all
  have hb1 := hb.all
  refine Fn.enter Try.func10 rfl Try.ntmps10 rfl ?_
  refine W.sub [(0, _), (1, _)] (.cons rfl (.cons rfl .nil)) ?_
  refine W.seq ?_
  refine W.region ?_
  refine WL.assign rfl rfl ?_
  refine WL.nil ?_
  refine WX.next ?_
  refine W.sub [(0, _), (1, _)] (.cons rfl (.cons rfl .nil)) ?_
  refine W.seq ?_
  refine W.seq ?_
  refine W.region ?_
  refine WL.move rfl rfl ?_
  refine WL.len Try.underlying24 rfl rfl ?_
  refine WL.move rfl rfl ?_
  refine WL.len Try.underlying24 rfl rfl ?_
  refine WL.neI rfl rfl rfl ?_
  refine WL.nil ?_
  refine WX.next ?_
  refine W.sub [(0, _), (1, _), (11, _)] (.cons rfl (.cons rfl (.cons rfl .nil))) ?_
  refine W.ite rfl (fun c0 => ?_) (fun c0 => ?_)
  · exact absurd c0 (by omega)
  · refine W.skip ?_
    refine WX.next ?_
    refine W.seq ?_
    refine W.seq ?_
    refine W.region ?_
    refine WL.assign rfl rfl ?_
    refine WL.nil ?_
    refine WX.next ?_
    refine W.sub [(0, _), (1, _), (5, _)] (.cons rfl (.cons rfl (.cons rfl .nil))) ?_
    refine W.block ?_
    refine W.loop (ι := Nat) (fun i => [(0, .slice A xs.length ca), (1, .slice B ys.length cb), (5, .int .i64 (i : Int))]) (fun zz w => Mem w0 w ((fun _ => []) zz) ∧ (fun i => i ≤ xs.length) zz) (fun i => xs.length - i) (0) (by (repeat' (first | exact envSub.nil | refine envSub.cons ?_ ?_)) <;> first | rfl | (refine congrArg some ?_; refine congrArg (Value.int _) ?_; first | omega | (dsimp only; omega)) | (simp; done) | (refine congrArg some ?_; dsimp only; congr 1; omega) | (simp; omega)) ⟨M.sel (by first | ((repeat (first | with_reducible exact Sel.refl | with_reducible exact Sel.nil | with_reducible exact Del.here | with_reducible apply Del.there | with_reducible apply Sel.cons | with_reducible apply Sel.drop)); done) | (repeat (first | exact Sel.refl | exact Sel.nil | exact Del.here | apply Del.there | apply Sel.cons | apply Sel.drop))), Nat.zero_le _⟩ ?_
    clear M; rintro (i) w ⟨M, hi⟩; dsimp only at M hi ⊢
    refine W.sub [(0, _), (1, _), (5, _)] (.cons rfl (.cons rfl (.cons rfl .nil))) ?_
    refine W.seq ?_
    refine W.seq ?_
    refine W.region ?_
    refine WL.move rfl rfl ?_
    refine WL.move rfl rfl ?_
    refine WL.len Try.underlying24 rfl rfl ?_
    refine WL.lss rfl rfl rfl ?_
    refine WL.nil ?_
    refine WX.next ?_
    refine W.sub [(0, _), (1, _), (5, _), (15, _)] (.cons rfl (.cons rfl (.cons rfl (.cons rfl .nil)))) ?_
    refine W.ite rfl (fun c1 => ?_) (fun c1 => ?_)
    · have hil : i < xs.length := by omega
      have hib : i < ys.length := by omega
      obtain ⟨he1, he2⟩ := hel i hil
      have he3 : (el xs i).nodes.length = (el ys i).nodes.length := by rw [he2]
      have hnl := hn _ (el_mem hil)
      have hra := ha.at_ hil
      have hrb := hb.at_ hib
      refine W.skip ?_
      refine WX.next ?_
      refine W.seq ?_
      refine W.block ?_
      refine W.seq ?_
      refine W.seq ?_
      refine W.drawM ([]) (by kernel_rfl) (fun j => [4, 9, 12, 13, 14, 15, 16, 17, 18, 19, 20, 21, 22, 23].contains j) M (by first | ((repeat (first | with_reducible exact Sel.refl | with_reducible exact Sel.nil | with_reducible exact Del.here | with_reducible apply Del.there | with_reducible apply Sel.cons | with_reducible apply Sel.drop)); done) | (repeat (first | exact Sel.refl | exact Sel.nil | exact Del.here | apply Del.there | apply Sel.cons | apply Sel.drop))) ?_
      clear M; intro M
      apply DG.pure_ [0, 1, 2, 3, 5, 6, 7, 8] 18 rfl (by kernel_rfl) (by kernel_rfl)
      · intro w
        refine WL.move rfl rfl ?_
        refine WL.move rfl rfl ?_
        refine WL.idxA Try.underlying24 Try.sizeOf44 rfl rfl (RdL.isSome (E := placeE) (by first | with_reducible assumption | with_reducible exact RdL.mem (by with_reducible assumption) M | exact M.rdL (by first | ((repeat (first | with_reducible exact Has.here | with_reducible refine Has.there ?_)); done) | (repeat (first | exact Has.here | refine Has.there ?_))) | exact RdLH.at (by assumption) (M.sel (by first | ((repeat (first | with_reducible exact Sel.refl | with_reducible exact Sel.nil | with_reducible exact Del.here | with_reducible apply Del.there | with_reducible apply Sel.cons | with_reducible apply Sel.drop)); done) | (repeat (first | exact Sel.refl | exact Sel.nil | exact Del.here | apply Del.there | apply Sel.cons | apply Sel.drop)))) | exact RdL.nil _ _ _) (by omega)) (by omega) (by omega) (by first | exact rfl | exact (Int.toNat_of_nonneg (by omega)).symm) rfl ?_
        refine WL.fieldA (off := 0) Try.underlying44 rfl rfl Try.sizeOf3 rfl rfl rfl ?_
        refine WL.move rfl rfl ?_
        refine WL.move rfl rfl ?_
        refine WL.idxA Try.underlying24 Try.sizeOf44 rfl rfl (RdL.isSome (E := placeE) (by first | with_reducible assumption | with_reducible exact RdL.mem (by with_reducible assumption) M | exact M.rdL (by first | ((repeat (first | with_reducible exact Has.here | with_reducible refine Has.there ?_)); done) | (repeat (first | exact Has.here | refine Has.there ?_))) | exact RdLH.at (by assumption) (M.sel (by first | ((repeat (first | with_reducible exact Sel.refl | with_reducible exact Sel.nil | with_reducible exact Del.here | with_reducible apply Del.there | with_reducible apply Sel.cons | with_reducible apply Sel.drop)); done) | (repeat (first | exact Sel.refl | exact Sel.nil | exact Del.here | apply Del.there | apply Sel.cons | apply Sel.drop)))) | exact RdL.nil _ _ _) (by omega)) (by omega) (by omega) (by first | exact rfl | exact (Int.toNat_of_nonneg (by omega)).symm) rfl ?_
        refine WL.fieldA (off := 0) Try.underlying44 rfl rfl Try.sizeOf3 rfl rfl rfl ?_
        exact Chain.end_ rfl
      apply DG.take [4, 9, 10] 15 rfl (by kernel_rfl) (by kernel_rfl) (M.sel (by first | ((repeat (first | with_reducible exact Sel.refl | with_reducible exact Sel.nil | with_reducible exact Del.here | with_reducible apply Del.there | with_reducible apply Sel.cons | with_reducible apply Sel.drop)); done) | (repeat (first | exact Sel.refl | exact Sel.nil | exact Del.here | apply Del.there | apply Sel.cons | apply Sel.drop))))
      · intro w M
        refine WL.loadE (E := placeE) Try.isAgg3 rfl (by first | with_reducible assumption | with_reducible exact RdL.mem (by with_reducible assumption) M | exact M.rdL (by first | ((repeat (first | with_reducible exact Has.here | with_reducible refine Has.there ?_)); done) | (repeat (first | exact Has.here | refine Has.there ?_))) | exact RdLH.at (by assumption) (M.sel (by first | ((repeat (first | with_reducible exact Sel.refl | with_reducible exact Sel.nil | with_reducible exact Del.here | with_reducible apply Del.there | with_reducible apply Sel.cons | with_reducible apply Sel.drop)); done) | (repeat (first | exact Sel.refl | exact Sel.nil | exact Del.here | apply Del.there | apply Sel.cons | apply Sel.drop)))) | exact RdL.nil _ _ _) (by omega) rfl rfl ?_
        refine WL.loadE (E := placeE) Try.isAgg3 rfl (by first | with_reducible assumption | with_reducible exact RdL.mem (by with_reducible assumption) M | exact M.rdL (by first | ((repeat (first | with_reducible exact Has.here | with_reducible refine Has.there ?_)); done) | (repeat (first | exact Has.here | refine Has.there ?_))) | exact RdLH.at (by assumption) (M.sel (by first | ((repeat (first | with_reducible exact Sel.refl | with_reducible exact Sel.nil | with_reducible exact Del.here | with_reducible apply Del.there | with_reducible apply Sel.cons | with_reducible apply Sel.drop)); done) | (repeat (first | exact Sel.refl | exact Sel.nil | exact Del.here | apply Del.there | apply Sel.cons | apply Sel.drop)))) | exact RdL.nil _ _ _) (by omega) rfl rfl ?_
        refine WL.neI rfl rfl rfl ?_
        exact Chain.end_ rfl
      refine DG.knowP (t := 28) rfl (fun c2 => ?_) (fun c2 => ?_)
      · exact absurd he1 c2
      · apply DG.pure_ [11] 14 rfl (by kernel_rfl) (by kernel_rfl)
        · intro w
          refine WL.move rfl rfl ?_
          exact Chain.end_ rfl
        apply DG.take [12, 13, 14, 15, 16, 17, 18, 19, 20, 21, 22, 23, 24, 25] 0 rfl (by kernel_rfl) (by kernel_rfl) (M.sel (by first | ((repeat (first | with_reducible exact Sel.refl | with_reducible exact Sel.nil | with_reducible exact Del.here | with_reducible apply Del.there | with_reducible apply Sel.cons | with_reducible apply Sel.drop)); done) | (repeat (first | exact Sel.refl | exact Sel.nil | exact Del.here | apply Del.there | apply Sel.cons | apply Sel.drop))))
        · intro w M
          refine WL.on rfl rfl ?_
          refine WL.move rfl rfl ?_
          refine WL.on rfl rfl ?_
          refine WL.move rfl rfl ?_
          refine WL.on rfl rfl ?_
          refine WL.idxA Try.underlying24 Try.sizeOf44 rfl rfl (RdL.isSome (E := placeE) (by first | with_reducible assumption | with_reducible exact RdL.mem (by with_reducible assumption) M | exact M.rdL (by first | ((repeat (first | with_reducible exact Has.here | with_reducible refine Has.there ?_)); done) | (repeat (first | exact Has.here | refine Has.there ?_))) | exact RdLH.at (by assumption) (M.sel (by first | ((repeat (first | with_reducible exact Sel.refl | with_reducible exact Sel.nil | with_reducible exact Del.here | with_reducible apply Del.there | with_reducible apply Sel.cons | with_reducible apply Sel.drop)); done) | (repeat (first | exact Sel.refl | exact Sel.nil | exact Del.here | apply Del.there | apply Sel.cons | apply Sel.drop)))) | exact RdL.nil _ _ _) (by omega)) (by omega) (by omega) (by first | exact rfl | exact (Int.toNat_of_nonneg (by omega)).symm) rfl ?_
          refine WL.on rfl rfl ?_
          refine WL.fieldA (off := 1) Try.underlying44 rfl rfl Try.sizeOf22 rfl rfl rfl ?_
          refine WL.on rfl rfl ?_
          refine WL.loadE (E := placeE) Try.isAgg22 rfl (by first | with_reducible assumption | with_reducible exact RdL.mem (by with_reducible assumption) M | exact M.rdL (by first | ((repeat (first | with_reducible exact Has.here | with_reducible refine Has.there ?_)); done) | (repeat (first | exact Has.here | refine Has.there ?_))) | exact RdLH.at (by assumption) (M.sel (by first | ((repeat (first | with_reducible exact Sel.refl | with_reducible exact Sel.nil | with_reducible exact Del.here | with_reducible apply Del.there | with_reducible apply Sel.cons | with_reducible apply Sel.drop)); done) | (repeat (first | exact Sel.refl | exact Sel.nil | exact Del.here | apply Del.there | apply Sel.cons | apply Sel.drop)))) | exact RdL.nil _ _ _) (by omega) rfl rfl ?_
          refine WL.on rfl rfl ?_
          refine WL.len Try.underlying22 rfl rfl ?_
          refine WL.on rfl rfl ?_
          refine WL.move rfl rfl ?_
          refine WL.on rfl rfl ?_
          refine WL.move rfl rfl ?_
          refine WL.on rfl rfl ?_
          refine WL.idxA Try.underlying24 Try.sizeOf44 rfl rfl (RdL.isSome (E := placeE) (by first | with_reducible assumption | with_reducible exact RdL.mem (by with_reducible assumption) M | exact M.rdL (by first | ((repeat (first | with_reducible exact Has.here | with_reducible refine Has.there ?_)); done) | (repeat (first | exact Has.here | refine Has.there ?_))) | exact RdLH.at (by assumption) (M.sel (by first | ((repeat (first | with_reducible exact Sel.refl | with_reducible exact Sel.nil | with_reducible exact Del.here | with_reducible apply Del.there | with_reducible apply Sel.cons | with_reducible apply Sel.drop)); done) | (repeat (first | exact Sel.refl | exact Sel.nil | exact Del.here | apply Del.there | apply Sel.cons | apply Sel.drop)))) | exact RdL.nil _ _ _) (by omega)) (by omega) (by omega) (by first | exact rfl | exact (Int.toNat_of_nonneg (by omega)).symm) rfl ?_
          refine WL.on rfl rfl ?_
          refine WL.fieldA (off := 1) Try.underlying44 rfl rfl Try.sizeOf22 rfl rfl rfl ?_
          refine WL.on rfl rfl ?_
          refine WL.loadE (E := placeE) Try.isAgg22 rfl (by first | with_reducible assumption | with_reducible exact RdL.mem (by with_reducible assumption) M | exact M.rdL (by first | ((repeat (first | with_reducible exact Has.here | with_reducible refine Has.there ?_)); done) | (repeat (first | exact Has.here | refine Has.there ?_))) | exact RdLH.at (by assumption) (M.sel (by first | ((repeat (first | with_reducible exact Sel.refl | with_reducible exact Sel.nil | with_reducible exact Del.here | with_reducible apply Del.there | with_reducible apply Sel.cons | with_reducible apply Sel.drop)); done) | (repeat (first | exact Sel.refl | exact Sel.nil | exact Del.here | apply Del.there | apply Sel.cons | apply Sel.drop)))) | exact RdL.nil _ _ _) (by omega) rfl rfl ?_
          refine WL.on rfl rfl ?_
          refine WL.len Try.underlying22 rfl rfl ?_
          refine WL.on rfl rfl ?_
          refine WL.neI rfl rfl rfl ?_
          refine WL.pickF rfl rfl rfl ?_
          exact Chain.end_ rfl
        refine DG.end_ (by kernel_rfl) ?_
        refine WX.next ?_
        refine W.sub [(0, _), (1, _), (5, _), (43, _)] (.cons rfl (.cons rfl (.cons rfl (.cons rfl .nil)))) ?_
        refine W.ite rfl (fun c3 => ?_) (fun c3 => ?_)
        · exact absurd c3 (by omega)
        · refine W.skip ?_
          refine WX.next ?_
          refine W.seq ?_
          refine W.region ?_
          refine WL.assign rfl rfl ?_
          refine WL.nil ?_
          refine WX.next ?_
          refine W.sub [(0, _), (1, _), (5, _), (6, _)] (.cons rfl (.cons rfl (.cons rfl (.cons rfl .nil)))) ?_
          refine W.block ?_
          refine W.loop (ι := Nat) (fun k => [(0, .slice A xs.length ca), (1, .slice B ys.length cb), (5, .int .i64 (i : Int)), (6, .int .i64 (k : Int))]) (fun zz w => Mem w0 w ((fun _ => []) zz) ∧ (fun k => k ≤ (el xs i).nodes.length) zz) (fun k => (el xs i).nodes.length - k) (0) (by (repeat' (first | exact envSub.nil | refine envSub.cons ?_ ?_)) <;> first | rfl | (refine congrArg some ?_; refine congrArg (Value.int _) ?_; first | omega | (dsimp only; omega)) | (simp; done) | (refine congrArg some ?_; dsimp only; congr 1; omega) | (simp; omega)) ⟨M.sel (by first | ((repeat (first | with_reducible exact Sel.refl | with_reducible exact Sel.nil | with_reducible exact Del.here | with_reducible apply Del.there | with_reducible apply Sel.cons | with_reducible apply Sel.drop)); done) | (repeat (first | exact Sel.refl | exact Sel.nil | exact Del.here | apply Del.there | apply Sel.cons | apply Sel.drop))), Nat.zero_le _⟩ ?_
          clear M; rintro (k) w ⟨M, hk2⟩; dsimp only at M hk2 ⊢
          refine W.sub [(0, _), (1, _), (5, _), (6, _)] (.cons rfl (.cons rfl (.cons rfl (.cons rfl .nil)))) ?_
          refine W.seq ?_
          refine W.seq ?_
          refine W.region ?_
          refine WL.move rfl rfl ?_
          refine WL.move rfl rfl ?_
          refine WL.move rfl rfl ?_
          refine WL.idxA Try.underlying24 Try.sizeOf44 rfl rfl (RdL.isSome (E := placeE) (by first | with_reducible assumption | with_reducible exact RdL.mem (by with_reducible assumption) M | exact M.rdL (by first | ((repeat (first | with_reducible exact Has.here | with_reducible refine Has.there ?_)); done) | (repeat (first | exact Has.here | refine Has.there ?_))) | exact RdLH.at (by assumption) (M.sel (by first | ((repeat (first | with_reducible exact Sel.refl | with_reducible exact Sel.nil | with_reducible exact Del.here | with_reducible apply Del.there | with_reducible apply Sel.cons | with_reducible apply Sel.drop)); done) | (repeat (first | exact Sel.refl | exact Sel.nil | exact Del.here | apply Del.there | apply Sel.cons | apply Sel.drop)))) | exact RdL.nil _ _ _) (by omega)) (by omega) (by omega) (by first | exact rfl | exact (Int.toNat_of_nonneg (by omega)).symm) rfl ?_
          refine WL.fieldA (off := 1) Try.underlying44 rfl rfl Try.sizeOf22 rfl rfl rfl ?_
          refine WL.loadE (E := placeE) Try.isAgg22 rfl (by first | with_reducible assumption | with_reducible exact RdL.mem (by with_reducible assumption) M | exact M.rdL (by first | ((repeat (first | with_reducible exact Has.here | with_reducible refine Has.there ?_)); done) | (repeat (first | exact Has.here | refine Has.there ?_))) | exact RdLH.at (by assumption) (M.sel (by first | ((repeat (first | with_reducible exact Sel.refl | with_reducible exact Sel.nil | with_reducible exact Del.here | with_reducible apply Del.there | with_reducible apply Sel.cons | with_reducible apply Sel.drop)); done) | (repeat (first | exact Sel.refl | exact Sel.nil | exact Del.here | apply Del.there | apply Sel.cons | apply Sel.drop)))) | exact RdL.nil _ _ _) (by omega) rfl rfl ?_
          refine WL.len Try.underlying22 rfl rfl ?_
          refine WL.lss rfl rfl rfl ?_
          refine WL.nil ?_
          refine WX.next ?_
          refine W.sub [(0, _), (1, _), (5, _), (6, _), (51, _)] (.cons rfl (.cons rfl (.cons rfl (.cons rfl (.cons rfl .nil))))) ?_
          refine W.ite rfl (fun c4 => ?_) (fun c4 => ?_)
          · refine W.skip ?_
            refine WX.next ?_
            refine W.seq ?_
            refine W.block ?_
            refine W.seq ?_
            refine W.drawM ([]) (by kernel_rfl) (fun j => [4, 6, 7, 12, 14, 15].contains j) M (by first | ((repeat (first | with_reducible exact Sel.refl | with_reducible exact Sel.nil | with_reducible exact Del.here | with_reducible apply Del.there | with_reducible apply Sel.cons | with_reducible apply Sel.drop)); done) | (repeat (first | exact Sel.refl | exact Sel.nil | exact Del.here | apply Del.there | apply Sel.cons | apply Sel.drop))) ?_
            clear M; intro M
            apply DG.pure_ [0, 1, 2, 3, 5, 8, 9, 10, 11, 13] 7 rfl (by kernel_rfl) (by kernel_rfl)
            · intro w
              refine WL.move rfl rfl ?_
              refine WL.move rfl rfl ?_
              refine WL.idxA Try.underlying24 Try.sizeOf44 rfl rfl (RdL.isSome (E := placeE) (by first | with_reducible assumption | with_reducible exact RdL.mem (by with_reducible assumption) M | exact M.rdL (by first | ((repeat (first | with_reducible exact Has.here | with_reducible refine Has.there ?_)); done) | (repeat (first | exact Has.here | refine Has.there ?_))) | exact RdLH.at (by assumption) (M.sel (by first | ((repeat (first | with_reducible exact Sel.refl | with_reducible exact Sel.nil | with_reducible exact Del.here | with_reducible apply Del.there | with_reducible apply Sel.cons | with_reducible apply Sel.drop)); done) | (repeat (first | exact Sel.refl | exact Sel.nil | exact Del.here | apply Del.there | apply Sel.cons | apply Sel.drop)))) | exact RdL.nil _ _ _) (by omega)) (by omega) (by omega) (by first | exact rfl | exact (Int.toNat_of_nonneg (by omega)).symm) rfl ?_
              refine WL.fieldA (off := 1) Try.underlying44 rfl rfl Try.sizeOf22 rfl rfl rfl ?_
              refine WL.move rfl rfl ?_
              refine WL.move rfl rfl ?_
              refine WL.move rfl rfl ?_
              refine WL.idxA Try.underlying24 Try.sizeOf44 rfl rfl (RdL.isSome (E := placeE) (by first | with_reducible assumption | with_reducible exact RdL.mem (by with_reducible assumption) M | exact M.rdL (by first | ((repeat (first | with_reducible exact Has.here | with_reducible refine Has.there ?_)); done) | (repeat (first | exact Has.here | refine Has.there ?_))) | exact RdLH.at (by assumption) (M.sel (by first | ((repeat (first | with_reducible exact Sel.refl | with_reducible exact Sel.nil | with_reducible exact Del.here | with_reducible apply Del.there | with_reducible apply Sel.cons | with_reducible apply Sel.drop)); done) | (repeat (first | exact Sel.refl | exact Sel.nil | exact Del.here | apply Del.there | apply Sel.cons | apply Sel.drop)))) | exact RdL.nil _ _ _) (by omega)) (by omega) (by omega) (by first | exact rfl | exact (Int.toNat_of_nonneg (by omega)).symm) rfl ?_
              refine WL.fieldA (off := 1) Try.underlying44 rfl rfl Try.sizeOf22 rfl rfl rfl ?_
              refine WL.move rfl rfl ?_
              exact Chain.end_ rfl
            apply DG.take [4, 6, 7, 12, 14, 15, 16] 0 rfl (by kernel_rfl) (by kernel_rfl) (M.sel (by first | ((repeat (first | with_reducible exact Sel.refl | with_reducible exact Sel.nil | with_reducible exact Del.here | with_reducible apply Del.there | with_reducible apply Sel.cons | with_reducible apply Sel.drop)); done) | (repeat (first | exact Sel.refl | exact Sel.nil | exact Del.here | apply Del.there | apply Sel.cons | apply Sel.drop))))
            · intro w M
              refine WL.loadE (E := placeE) Try.isAgg22 rfl (by first | with_reducible assumption | with_reducible exact RdL.mem (by with_reducible assumption) M | exact M.rdL (by first | ((repeat (first | with_reducible exact Has.here | with_reducible refine Has.there ?_)); done) | (repeat (first | exact Has.here | refine Has.there ?_))) | exact RdLH.at (by assumption) (M.sel (by first | ((repeat (first | with_reducible exact Sel.refl | with_reducible exact Sel.nil | with_reducible exact Del.here | with_reducible apply Del.there | with_reducible apply Sel.cons | with_reducible apply Sel.drop)); done) | (repeat (first | exact Sel.refl | exact Sel.nil | exact Del.here | apply Del.there | apply Sel.cons | apply Sel.drop)))) | exact RdL.nil _ _ _) (by omega) rfl rfl ?_
              refine WL.idxA Try.underlying22 Try.sizeOf3 rfl rfl (RdL.isSome (E := intE) (by first | with_reducible assumption | with_reducible exact RdL.mem (by with_reducible assumption) M | exact M.rdL (by first | ((repeat (first | with_reducible exact Has.here | with_reducible refine Has.there ?_)); done) | (repeat (first | exact Has.here | refine Has.there ?_))) | exact RdLH.at (by assumption) (M.sel (by first | ((repeat (first | with_reducible exact Sel.refl | with_reducible exact Sel.nil | with_reducible exact Del.here | with_reducible apply Del.there | with_reducible apply Sel.cons | with_reducible apply Sel.drop)); done) | (repeat (first | exact Sel.refl | exact Sel.nil | exact Del.here | apply Del.there | apply Sel.cons | apply Sel.drop)))) | exact RdL.nil _ _ _) (by omega)) (by omega) (by omega) (by first | exact rfl | exact (Int.toNat_of_nonneg (by omega)).symm) rfl ?_
              refine WL.loadE0 (E := intE) Try.isAgg3 rfl (by first | with_reducible assumption | with_reducible exact RdL.mem (by with_reducible assumption) M | exact M.rdL (by first | ((repeat (first | with_reducible exact Has.here | with_reducible refine Has.there ?_)); done) | (repeat (first | exact Has.here | refine Has.there ?_))) | exact RdLH.at (by assumption) (M.sel (by first | ((repeat (first | with_reducible exact Sel.refl | with_reducible exact Sel.nil | with_reducible exact Del.here | with_reducible apply Del.there | with_reducible apply Sel.cons | with_reducible apply Sel.drop)); done) | (repeat (first | exact Sel.refl | exact Sel.nil | exact Del.here | apply Del.there | apply Sel.cons | apply Sel.drop)))) | exact RdL.nil _ _ _) (by omega) rfl rfl ?_
              refine WL.loadE (E := placeE) Try.isAgg22 rfl (by first | with_reducible assumption | with_reducible exact RdL.mem (by with_reducible assumption) M | exact M.rdL (by first | ((repeat (first | with_reducible exact Has.here | with_reducible refine Has.there ?_)); done) | (repeat (first | exact Has.here | refine Has.there ?_))) | exact RdLH.at (by assumption) (M.sel (by first | ((repeat (first | with_reducible exact Sel.refl | with_reducible exact Sel.nil | with_reducible exact Del.here | with_reducible apply Del.there | with_reducible apply Sel.cons | with_reducible apply Sel.drop)); done) | (repeat (first | exact Sel.refl | exact Sel.nil | exact Del.here | apply Del.there | apply Sel.cons | apply Sel.drop)))) | exact RdL.nil _ _ _) (by omega) rfl rfl ?_
              refine WL.idxA Try.underlying22 Try.sizeOf3 rfl rfl (RdL.isSome (E := intE) (by first | with_reducible assumption | with_reducible exact RdL.mem (by with_reducible assumption) M | exact M.rdL (by first | ((repeat (first | with_reducible exact Has.here | with_reducible refine Has.there ?_)); done) | (repeat (first | exact Has.here | refine Has.there ?_))) | exact RdLH.at (by assumption) (M.sel (by first | ((repeat (first | with_reducible exact Sel.refl | with_reducible exact Sel.nil | with_reducible exact Del.here | with_reducible apply Del.there | with_reducible apply Sel.cons | with_reducible apply Sel.drop)); done) | (repeat (first | exact Sel.refl | exact Sel.nil | exact Del.here | apply Del.there | apply Sel.cons | apply Sel.drop)))) | exact RdL.nil _ _ _) (by omega)) (by omega) (by omega) (by first | exact rfl | exact (Int.toNat_of_nonneg (by omega)).symm) rfl ?_
              refine WL.loadE0 (E := intE) Try.isAgg3 rfl (by first | with_reducible assumption | with_reducible exact RdL.mem (by with_reducible assumption) M | exact M.rdL (by first | ((repeat (first | with_reducible exact Has.here | with_reducible refine Has.there ?_)); done) | (repeat (first | exact Has.here | refine Has.there ?_))) | exact RdLH.at (by assumption) (M.sel (by first | ((repeat (first | with_reducible exact Sel.refl | with_reducible exact Sel.nil | with_reducible exact Del.here | with_reducible apply Del.there | with_reducible apply Sel.cons | with_reducible apply Sel.drop)); done) | (repeat (first | exact Sel.refl | exact Sel.nil | exact Del.here | apply Del.there | apply Sel.cons | apply Sel.drop)))) | exact RdL.nil _ _ _) (by omega) rfl rfl ?_
              refine WL.neI rfl rfl rfl ?_
              exact Chain.end_ rfl
            refine DG.end_ (by kernel_rfl) ?_
            refine WX.next ?_
            refine W.sub [(0, _), (1, _), (5, _), (6, _), (70, _)] (.cons rfl (.cons rfl (.cons rfl (.cons rfl (.cons rfl .nil))))) ?_
            refine W.ite rfl (fun c5 => ?_) (fun c5 => ?_)
            · exact absurd (by rw [he2]) c5
            · refine W.skip ?_
              refine WX.blockNormal ?_
              refine WX.next ?_
              refine W.region ?_
              refine WL.move rfl rfl ?_
              refine WL.add rfl rfl (by first | exact wI64 (by omega) | rfl) rfl ?_
              refine WL.assign rfl rfl ?_
              refine WL.nil ?_
              refine WX.round (k + 1) (by (repeat' (first | exact envSub.nil | refine envSub.cons ?_ ?_)) <;> first | rfl | (refine congrArg some ?_; refine congrArg (Value.int _) ?_; first | omega | (dsimp only; omega)) | (simp; done) | (refine congrArg some ?_; dsimp only; congr 1; omega) | (simp; omega)) ⟨M.sel (by first | ((repeat (first | with_reducible exact Sel.refl | with_reducible exact Sel.nil | with_reducible exact Del.here | with_reducible apply Del.there | with_reducible apply Sel.cons | with_reducible apply Sel.drop)); done) | (repeat (first | exact Sel.refl | exact Sel.nil | exact Del.here | apply Del.there | apply Sel.cons | apply Sel.drop))), (by omega)⟩ (by first | omega | (dsimp only; omega))
          · refine W.exit ?_
            refine WX.thenExit ?_
            refine WX.thenExit ?_
            refine WX.blockHere ?_
            refine WX.blockNormal ?_
            refine WX.next ?_
            refine W.region ?_
            refine WL.move rfl rfl ?_
            refine WL.add rfl rfl (by first | exact wI64 (by omega) | rfl) rfl ?_
            refine WL.assign rfl rfl ?_
            refine WL.nil ?_
            refine WX.round (i + 1) (by (repeat' (first | exact envSub.nil | refine envSub.cons ?_ ?_)) <;> first | rfl | (refine congrArg some ?_; refine congrArg (Value.int _) ?_; first | omega | (dsimp only; omega)) | (simp; done) | (refine congrArg some ?_; dsimp only; congr 1; omega) | (simp; omega)) ⟨M.sel (by first | ((repeat (first | with_reducible exact Sel.refl | with_reducible exact Sel.nil | with_reducible exact Del.here | with_reducible apply Del.there | with_reducible apply Sel.cons | with_reducible apply Sel.drop)); done) | (repeat (first | exact Sel.refl | exact Sel.nil | exact Del.here | apply Del.there | apply Sel.cons | apply Sel.drop))), (by omega)⟩ (by first | omega | (dsimp only; omega))
    · refine W.exit ?_
      refine WX.thenExit ?_
      refine WX.thenExit ?_
      refine WX.blockHere ?_
      refine WX.next ?_
      refine W.seq ?_
      refine W.region ?_
      refine WL.assign rfl rfl ?_
      refine WL.nil ?_
      refine WX.next ?_
      refine W.sub [(4, _)] (.cons rfl .nil) ?_
      refine W.ret ?_
      refine WX.ret1 rfl rfl ?_
      exact ⟨rfl, M.sel (by first | ((repeat (first | with_reducible exact Sel.refl | with_reducible exact Sel.nil | with_reducible exact Del.here | with_reducible apply Del.there | with_reducible apply Sel.cons | with_reducible apply Sel.drop)); done) | (repeat (first | exact Sel.refl | exact Sel.nil | exact Del.here | apply Del.there | apply Sel.cons | apply Sel.drop)))⟩
end Go.Proofs.Ytkdkdaljgoibaaa
