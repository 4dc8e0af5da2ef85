/-
  Walks: a bucket (New, one tick, one token), Mul64 of small numbers; are places the same (seawallref16).
-/
import Derived.Test.YtcmlehggfkjagaaHeal4
namespace Go.Proofs.Ytcmlehggfkjagaa
open Go Go.RowKit Bin

theorem and32 (x : Nat) (h : x < 4294967296) : bits .and .u64 (x : Int) 4294967295 = (x : Int) := by
  have := andU64 x 4294967295 (by omega) (by omega)
  rw [show x &&& 4294967295 = x from by rw [show (4294967295 : Nat) = 2 ^ 32 - 1 from rfl, Nat.and_two_pow_sub_one_eq_mod]; exact Nat.mod_eq_of_lt h] at this
  exact this
theorem Mul64_ok (x y : Nat) (hx : x < 60000) (hy : y < 60000) (w : World) : Fn Try.prog 30 [.int .u64 (x : Int), .int .u64 (y : Int)] w fun v w' => v = .tuple #[.int .u64 0, .int .u64 ((x * y : Nat) : Int)] ∧ w' = w := by
  have M := Mem.refl w
  have hp : x * y < 4294967296 := Nat.lt_of_le_of_lt (Nat.mul_le_mul (Nat.le_of_lt hx) (Nat.le_of_lt hy)) (by decide)
  obtain ⟨p, hpe⟩ : ∃ p, p = x * y := ⟨_, rfl⟩
  rw [← hpe] at hp ⊢
  have hm : IntKind.u64.wrap ((x : Int) * (y : Int)) = (p : Int) := by
    rw [← Int.natCast_mul, ← hpe]
    exact wU64 (by omega)
  have hx1 : (x : Int) / 4294967296 = 0 := by omega
  have hy1 : (y : Int) / 4294967296 = 0 := by omega
  have hp1 : (p : Int) / 4294967296 = 0 := by omega
  refine Fn.enter Try.func30 rfl Try.ntmps30 rfl ?_
  refine W.sub [(0, _), (1, _)] (.cons rfl (.cons rfl .nil)) ?_
  refine W.seq ?_
  refine W.region ?_
  refine WL.assign rfl rfl ?_
  refine WL.assign rfl rfl ?_
  refine WL.nil ?_
  refine WX.next ?_
  refine W.sub [(0, _), (1, _)] (.cons rfl (.cons rfl .nil)) ?_
  refine W.seq ?_
  refine W.region ?_
  refine WL.move rfl rfl ?_
  refine WL.band rfl rfl (and32 x (by omega)) rfl ?_
  refine WL.assign rfl rfl ?_
  refine WL.nil ?_
  refine WX.next ?_
  refine W.sub [(0, _), (1, _), (6, _)] (.cons rfl (.cons rfl (.cons rfl .nil))) ?_
  refine W.seq ?_
  refine W.region ?_
  refine WL.move rfl rfl ?_
  refine WL.shrC rfl rfl 32 rfl rfl 4294967296 rfl rfl ?_
  rw [hx1]
  refine WL.assign rfl rfl ?_
  refine WL.nil ?_
  refine WX.next ?_
  refine W.sub [(0, _), (1, _), (6, _), (7, _)] (.cons rfl (.cons rfl (.cons rfl (.cons rfl .nil)))) ?_
  refine W.seq ?_
  refine W.region ?_
  refine WL.move rfl rfl ?_
  refine WL.band rfl rfl (and32 y (by omega)) rfl ?_
  refine WL.assign rfl rfl ?_
  refine WL.nil ?_
  refine WX.next ?_
  refine W.sub [(0, _), (1, _), (6, _), (7, _), (8, _)] (.cons rfl (.cons rfl (.cons rfl (.cons rfl (.cons rfl .nil))))) ?_
  refine W.seq ?_
  refine W.region ?_
  refine WL.move rfl rfl ?_
  refine WL.shrC rfl rfl 32 rfl rfl 4294967296 rfl rfl ?_
  rw [hy1]
  refine WL.assign rfl rfl ?_
  refine WL.nil ?_
  refine WX.next ?_
  refine W.sub [(0, _), (1, _), (6, _), (7, _), (8, _), (9, _)] (.cons rfl (.cons rfl (.cons rfl (.cons rfl (.cons rfl (.cons rfl .nil)))))) ?_
  refine W.seq ?_
  refine W.region ?_
  refine WL.move rfl rfl ?_
  refine WL.move rfl rfl ?_
  refine WL.mul rfl rfl hm rfl ?_
  refine WL.assign rfl rfl ?_
  refine WL.nil ?_
  refine WX.next ?_
  refine W.sub [(0, _), (1, _), (6, _), (7, _), (8, _), (9, _), (10, _)] (.cons rfl (.cons rfl (.cons rfl (.cons rfl (.cons rfl (.cons rfl (.cons rfl .nil))))))) ?_
  refine W.seq ?_
  refine W.region ?_
  refine WL.move rfl rfl ?_
  refine WL.move rfl rfl ?_
  refine WL.mul rfl rfl (show IntKind.u64.wrap (0 * (y : Int)) = 0 by rw [Int.zero_mul]; rfl) rfl ?_
  refine WL.move rfl rfl ?_
  refine WL.shrC rfl rfl 32 rfl rfl 4294967296 rfl rfl ?_
  rw [hp1]
  refine WL.add rfl rfl (show IntKind.u64.wrap (0 + 0) = 0 from rfl) rfl ?_
  refine WL.assign rfl rfl ?_
  refine WL.nil ?_
  refine WX.next ?_
  refine W.sub [(0, _), (1, _), (6, _), (7, _), (9, _), (11, _)] (.cons rfl (.cons rfl (.cons rfl (.cons rfl (.cons rfl (.cons rfl .nil)))))) ?_
  refine W.seq ?_
  refine W.region ?_
  refine WL.move rfl rfl ?_
  refine WL.band rfl rfl (show bits .and .u64 0 4294967295 = 0 from rfl) rfl ?_
  refine WL.assign rfl rfl ?_
  refine WL.nil ?_
  refine WX.next ?_
  refine W.sub [(0, _), (1, _), (6, _), (7, _), (9, _), (11, _), (12, _)] (.cons rfl (.cons rfl (.cons rfl (.cons rfl (.cons rfl (.cons rfl (.cons rfl .nil))))))) ?_
  refine W.seq ?_
  refine W.region ?_
  refine WL.move rfl rfl ?_
  refine WL.shrC rfl rfl 32 rfl rfl 4294967296 rfl rfl ?_
  refine WL.assign rfl rfl ?_
  refine WL.nil ?_
  refine WX.next ?_
  refine W.sub [(0, _), (1, _), (6, _), (7, _), (9, _), (12, _), (13, _)] (.cons rfl (.cons rfl (.cons rfl (.cons rfl (.cons rfl (.cons rfl (.cons rfl .nil))))))) ?_
  refine W.seq ?_
  refine W.region ?_
  refine WL.move rfl rfl ?_
  refine WL.move rfl rfl ?_
  refine WL.move rfl rfl ?_
  refine WL.mul rfl rfl (show IntKind.u64.wrap ((x : Int) * 0) = 0 by rw [Int.mul_zero]; rfl) rfl ?_
  refine WL.add rfl rfl (show IntKind.u64.wrap (0 + 0) = 0 from rfl) rfl ?_
  refine WL.assign rfl rfl ?_
  refine WL.nil ?_
  refine WX.next ?_
  refine W.sub [(0, _), (1, _), (7, _), (9, _), (12, _), (13, _)] (.cons rfl (.cons rfl (.cons rfl (.cons rfl (.cons rfl (.cons rfl .nil)))))) ?_
  refine W.seq ?_
  refine W.region ?_
  refine WL.move rfl rfl ?_
  refine WL.move rfl rfl ?_
  refine WL.mul rfl rfl (show IntKind.u64.wrap (0 * 0) = 0 from rfl) rfl ?_
  refine WL.move rfl rfl ?_
  refine WL.add rfl rfl (show IntKind.u64.wrap (0 + 0) = 0 from rfl) rfl ?_
  refine WL.move rfl rfl ?_
  refine WL.shrC rfl rfl 32 rfl rfl 4294967296 rfl rfl ?_
  refine WL.add rfl rfl (show IntKind.u64.wrap (0 + 0) = 0 from rfl) rfl ?_
  refine WL.assign rfl rfl ?_
  refine WL.nil ?_
  refine WX.next ?_
  refine W.sub [(0, _), (1, _), (4, _)] (.cons rfl (.cons rfl (.cons rfl .nil))) ?_
  refine W.seq ?_
  refine W.region ?_
  refine WL.move rfl rfl ?_
  refine WL.move rfl rfl ?_
  refine WL.mul rfl rfl hm rfl ?_
  refine WL.assign rfl rfl ?_
  refine WL.nil ?_
  refine WX.next ?_
  refine W.sub [(4, _), (5, _)] (.cons rfl (.cons rfl .nil)) ?_
  refine W.ret ?_
  refine WX.ret2 rfl rfl rfl ?_
  exact ⟨rfl, rfl⟩
end Go.Proofs.Ytcmlehggfkjagaa
