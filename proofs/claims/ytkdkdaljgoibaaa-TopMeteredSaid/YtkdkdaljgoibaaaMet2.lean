/-
  Walk: sites and places that may be, made of any (rightful).
-/
import Derived.Test.YtkdkdaljgoibaaaMet1
namespace Go.Proofs.Ytkdkdaljgoibaaa
open Go Go.RowKit Bin

theorem sites_ok {s : List Int} (h1 : 1 ≤ s.length) (h2 : s.length ≤ 12) (h3 : ∀ x ∈ s, 0 ≤ x ∧ x < 12) : Sites s := ⟨h1, h2, h3⟩
/-- Places as they are made. -/
structure Made (l : List PlX) (N : Nat) : Prop where
  chunk : ∀ k, k < l.length → (el l k).chunk = (k : Int)
  nodes : ∀ p ∈ l, p.nodes.Pairwise (· < ·) ∧ ∀ x ∈ p.nodes, 0 ≤ x ∧ x < (N : Int)
theorem Made.formed {l : List PlX} {N : Nat} (h : Made l N) (hl : l.length ≤ 256) : Formed (l.map PlX.key) (N : Int) := by
  have hc : ∀ k (hk : k < l.length), l[k].chunk = (k : Int) := fun k hk => by have := h.chunk k hk; simpa [el, hk] using this
  refine ⟨fun p hp => ?_, ?_, fun p hp => ?_, by simpa using hl⟩
  · obtain ⟨x, hx, rfl⟩ := List.mem_map.1 hp
    exact h.nodes x hx
  · rw [List.map_map, List.pairwise_iff_getElem]
    intro i j hi hj hij
    rw [List.getElem_map, List.getElem_map]
    show (l[i]'(by simpa using hi)).chunk < (l[j]'(by simpa using hj)).chunk
    rw [hc i (by simpa using hi), hc j (by simpa using hj)]
    omega
  · obtain ⟨x, hx, rfl⟩ := List.mem_map.1 hp
    obtain ⟨k, hk, rfl⟩ := List.getElem_of_mem hx
    show 0 ≤ (l[k]).chunk
    rw [hc k hk]
    omega
theorem Made.snoc {l : List PlX} {N : Nat} (h : Made l N) {p : PlX} (hc : p.chunk = (l.length : Int)) (hp : p.nodes.Pairwise (· < ·)) (hr : ∀ x ∈ p.nodes, 0 ≤ x ∧ x < (N : Int)) : Made (l ++ [p]) N := by
  refine ⟨fun k hk => ?_, fun q hq => ?_⟩
  · rcases Nat.lt_or_ge k l.length with h1 | h1
    · rw [el_append_left h1]
      exact h.chunk k h1
    · have hk2 : k = l.length := by simp at hk; omega
      subst hk2
      rw [el_append_right (Nat.le_refl _), Nat.sub_self]
      exact hc
  · rcases List.mem_append.1 hq with hq | hq
    · exact h.nodes q hq
    · obtain rfl : q = p := by simpa using hq
      exact ⟨hp, hr⟩
/-- A bit set. -/
theorem bit_set (s k : Nat) (hs : s < 4294967296) (hk : k < 32) : bits .or .u32 (s : Int) (IntKind.u32.wrap (1 * 2 ^ ((k : Int)).toNat)) = ((s ||| 2 ^ k : Nat) : Int) ∧ s ||| 2 ^ k < 4294967296 := by
  have h2 : (2 : Nat) ^ k < 4294967296 := by
    have := Nat.pow_lt_pow_right (a := 2) (by omega) hk
    simpa using this
  have e : IntKind.u32.wrap (1 * 2 ^ ((k : Int)).toNat) = ((2 ^ k : Nat) : Int) := by
    rw [Int.toNat_natCast, Int.one_mul, mU32]
    have e2 : (2 : Int) ^ k = ((2 ^ k : Nat) : Int) := by push_cast; rfl
    rw [e2]
    exact Int.emod_eq_of_lt (Int.natCast_nonneg _) (Int.ofNat_lt.2 h2)
  rw [e]
  exact ⟨orU32 s (2 ^ k) hs h2, Nat.or_lt_two_pow (n := 32) hs h2⟩
set_option maxHeartbeats 4000000 in
set_option maxRecDepth 10000 in
theorem rightful_ok {As A : Option Addr} {cs cap : Nat} {sites : List Int} {raw : List PlX} (hsl : sites.length ≤ 9223372036854775807) (hrl : raw.length ≤ 9223372036854775807) (hrn : ∀ p ∈ raw, p.nodes.length ≤ 9223372036854775807) {w0 : World} (hs : RdL w0 intE As cs sites) (h : RdP w0 A cap raw) :
    Fn Try.prog 5 [.slice As sites.length cs, .slice A raw.length cap] w0 fun v w' => ∃ (B : Option Addr) (cb : Nat) (s : List Int) (C : Option Addr) (cc : Nat) (l : List PlX), v = .tuple #[.slice B s.length cb, .slice C l.length cc] ∧ Sites s ∧ l.length ≤ 60 ∧ Made l s.length ∧
      Mem w0 w' [Asr.lst intE B cb s, Asr.lst placeE C cc l, Asr.star (l.map PlX.O)] := by
  have M := Mem.refl w0
  obtain ⟨w, hw⟩ : ∃ w, w = w0 := ⟨w0, rfl⟩
  have hall := h.all
  refine Fn.enter Try.func5 rfl Try.ntmps5 rfl ?_
  refine W.sub [(0, _), (1, _)] (.cons rfl (.cons rfl .nil)) ?_
  refine W.seq ?_
  refine W.region ?_
  refine WL.assign rfl rfl ?_
  refine WL.assign rfl rfl ?_
  refine WL.nil ?_
  refine WX.next ?_
  refine W.sub [(0, _), (1, _)] (.cons rfl (.cons rfl .nil)) ?_
  refine W.seq ?_
  refine W.region ?_
  refine WL.assign rfl rfl ?_
  refine WL.nil ?_
  refine WX.next ?_
  refine W.sub [(0, _), (1, _), (6, _)] (.cons rfl (.cons rfl (.cons rfl .nil))) ?_
  refine W.joint (fun (z : Option Addr × Nat × List Int) => [(1, .slice A raw.length cap), (6, .slice z.1 z.2.2.length z.2.1)]) (fun zj w => Mem w0 w ((fun z => [Asr.lst intE z.1 z.2.1 z.2.2]) zj) ∧ (fun z => z.2.2.length ≤ 12 ∧ ∀ x ∈ z.2.2, 0 ≤ x ∧ x < 12) zj) ?_ ?_
  · refine W.seq ?_
    refine W.region ?_
    refine WL.assign rfl rfl ?_
    refine WL.nil ?_
    refine WX.next ?_
    refine W.sub [(0, _), (1, _), (6, _), (7, _)] (.cons rfl (.cons rfl (.cons rfl (.cons rfl .nil)))) ?_
    refine W.block ?_
    refine W.loop (ι := Nat × (Option Addr × Nat × List Int)) (fun z => [(0, .slice As sites.length cs), (1, .slice A raw.length cap), (6, .slice z.2.1 z.2.2.2.length z.2.2.1), (7, .int .i64 (z.1 : Int))]) (fun zz w => Mem w0 w ((fun z => [Asr.lst intE z.2.1 z.2.2.1 z.2.2.2]) zz) ∧ (fun z => z.1 ≤ 12 ∧ z.2.2.2.length = z.1 ∧ ∀ x ∈ z.2.2.2, 0 ≤ x ∧ x < 12) zz) (fun z => 12 - z.1) ((0, (none, 0, []))) (by (repeat' (first | exact envSub.nil | refine envSub.cons ?_ ?_)) <;> first | rfl | (refine congrArg some ?_; refine congrArg (Value.int _) ?_; first | omega | (dsimp only; omega)) | (simp; done) | (refine congrArg some ?_; dsimp only; congr 1; omega) | (simp; omega)) ⟨(Mem.nilOwn (M.sel (K := []) (by first | ((repeat (first | with_reducible exact Sel.refl | with_reducible exact Sel.nil | with_reducible exact Del.here | with_reducible apply Del.there | with_reducible apply Sel.cons | with_reducible apply Sel.drop)); done) | (repeat (first | exact Sel.refl | exact Sel.nil | exact Del.here | apply Del.there | apply Sel.cons | apply Sel.drop)))) 3 1), ⟨Nat.zero_le _, rfl, fun x hx => by cases hx⟩⟩ ?_
    clear M; rintro (⟨i, B0, cb0, s0⟩) w ⟨M, ⟨hi, hsl0, hs2⟩⟩; dsimp only at M hi hsl0 hs2 ⊢
    refine W.sub [(0, _), (1, _), (6, _), (7, _)] (.cons rfl (.cons rfl (.cons rfl (.cons rfl .nil)))) ?_
    refine W.seq ?_
    refine W.seq ?_
    refine W.region ?_
    refine WL.move rfl rfl ?_
    refine WL.move rfl rfl ?_
    refine WL.len Try.underlying22 rfl rfl ?_
    refine WL.lss rfl rfl rfl ?_
    refine WL.moveIf rfl rfl (fun c0 => ?_) (fun c0 => ?_)
    · refine WL.on rfl rfl ?_
      refine WL.move rfl rfl ?_
      refine WL.on rfl rfl ?_
      refine WL.lss rfl rfl rfl ?_
      refine WL.pickT rfl rfl rfl ?_
      refine WL.nil ?_
      refine WX.next ?_
      refine W.sub [(0, _), (1, _), (6, _), (7, _), (21, _)] (.cons rfl (.cons rfl (.cons rfl (.cons rfl (.cons rfl .nil))))) ?_
      refine W.ite rfl (fun c1 => ?_) (fun c1 => ?_)
      · have hil : i < sites.length := by omega
        refine W.skip ?_
        refine WX.next ?_
        refine W.seq ?_
        refine W.block ?_
        refine W.region ?_
        refine WL.move rfl rfl ?_
        refine WL.move rfl rfl ?_
        refine WL.move rfl rfl ?_
        refine WL.idxA Try.underlying22 Try.sizeOf3 rfl rfl (RdL.isSome (E := intE) (by first | with_reducible assumption | with_reducible exact RdL.mem (by with_reducible assumption) M | exact M.rdL (by first | ((repeat (first | with_reducible exact Has.here | with_reducible refine Has.there ?_)); done) | (repeat (first | exact Has.here | refine Has.there ?_))) | exact RdLH.at (by assumption) (M.sel (by first | ((repeat (first | with_reducible exact Sel.refl | with_reducible exact Sel.nil | with_reducible exact Del.here | with_reducible apply Del.there | with_reducible apply Sel.cons | with_reducible apply Sel.drop)); done) | (repeat (first | exact Sel.refl | exact Sel.nil | exact Del.here | apply Del.there | apply Sel.cons | apply Sel.drop)))) | exact RdL.nil _ _ _) (by omega)) (by omega) (by omega) (by first | exact rfl | exact (Int.toNat_of_nonneg (by omega)).symm) rfl ?_
        refine WL.loadE0 (E := intE) Try.isAgg3 rfl (by first | with_reducible assumption | with_reducible exact RdL.mem (by with_reducible assumption) M | exact M.rdL (by first | ((repeat (first | with_reducible exact Has.here | with_reducible refine Has.there ?_)); done) | (repeat (first | exact Has.here | refine Has.there ?_))) | exact RdLH.at (by assumption) (M.sel (by first | ((repeat (first | with_reducible exact Sel.refl | with_reducible exact Sel.nil | with_reducible exact Del.here | with_reducible apply Del.there | with_reducible apply Sel.cons | with_reducible apply Sel.drop)); done) | (repeat (first | exact Sel.refl | exact Sel.nil | exact Del.here | apply Del.there | apply Sel.cons | apply Sel.drop)))) | exact RdL.nil _ _ _) (by omega) rfl rfl ?_
        refine WL.conv Try.underlying3 Try.underlying25 rfl (by first | exact wU64 (by omega) | exact mU64 _ | rfl) rfl ?_
        refine WL.rem rfl rfl (by omega) (remN (by omega)) rfl ?_
        refine WL.conv Try.underlying25 Try.underlying3 rfl (by first | exact wI64 (by omega) | rfl) rfl ?_
        refine WL.buildL (E := intE) (l := [el sites i % 18446744073709551616 % 12]) Try.elem3 M rfl rfl rfl rfl rfl rfl ?_
        intro g5_8 w M
        refine WL.appendL (E := intE) Try.elem3 rfl rfl M (by first | ((repeat (first | with_reducible exact Del.here | with_reducible apply Del.there)); done) | (repeat (first | exact Del.here | apply Del.there))) (by first | with_reducible assumption | with_reducible exact RdL.mem (by with_reducible assumption) M | exact M.rdL (by first | ((repeat (first | with_reducible exact Has.here | with_reducible refine Has.there ?_)); done) | (repeat (first | exact Has.here | refine Has.there ?_))) | exact RdLH.at (by assumption) (M.sel (by first | ((repeat (first | with_reducible exact Sel.refl | with_reducible exact Sel.nil | with_reducible exact Del.here | with_reducible apply Del.there | with_reducible apply Sel.cons | with_reducible apply Sel.drop)); done) | (repeat (first | exact Sel.refl | exact Sel.nil | exact Del.here | apply Del.there | apply Sel.cons | apply Sel.drop)))) | exact RdL.nil _ _ _) rfl rfl (by first | omega | (simp; done) | (simp; omega)) (by first | (simp only [maxLen]; omega) | (simp [maxLen]; done) | (simp [maxLen]; omega)) rfl ?_
        intro A5_9 cap5_9 w M
        refine WL.assign rfl rfl ?_
        refine WL.nil ?_
        refine WX.blockNormal ?_
        refine WX.next ?_
        refine W.sub [(0, _), (1, _), (6, _), (7, _)] (.cons rfl (.cons rfl (.cons rfl (.cons rfl .nil)))) ?_
        refine W.region ?_
        refine WL.move rfl rfl ?_
        refine WL.add rfl rfl (by first | exact wI64 (by omega) | rfl) rfl ?_
        refine WL.assign rfl rfl ?_
        refine WL.nil ?_
        skip
        have q : ∀ x ∈ s0 ++ [el sites i % 18446744073709551616 % 12], 0 ≤ x ∧ x < 12 := by
          intro x hx
          rcases List.mem_append.1 hx with hx | hx
          · exact hs2 x hx
          · obtain rfl : x = el sites i % 18446744073709551616 % 12 := by simpa using hx
            omega
        refine WX.round ((i + 1, (A5_9, cap5_9, s0 ++ [el sites i % 18446744073709551616 % 12]))) (by (repeat' (first | exact envSub.nil | refine envSub.cons ?_ ?_)) <;> first | rfl | (refine congrArg some ?_; refine congrArg (Value.int _) ?_; first | omega | (dsimp only; omega)) | (simp; done) | (refine congrArg some ?_; dsimp only; congr 1; omega) | (simp; omega)) ⟨M.sel (by first | ((repeat (first | with_reducible exact Sel.refl | with_reducible exact Sel.nil | with_reducible exact Del.here | with_reducible apply Del.there | with_reducible apply Sel.cons | with_reducible apply Sel.drop)); done) | (repeat (first | exact Sel.refl | exact Sel.nil | exact Del.here | apply Del.there | apply Sel.cons | apply Sel.drop))), ⟨by dsimp only; omega, by simp; omega, q⟩⟩ (by first | omega | (dsimp only; omega))
      · refine W.exit ?_
        refine WX.thenExit ?_
        refine WX.thenExit ?_
        refine WX.blockHere ?_
        refine WX.join ((B0, cb0, s0)) (by (repeat' (first | exact envSub.nil | refine envSub.cons ?_ ?_)) <;> first | rfl | (refine congrArg some ?_; refine congrArg (Value.int _) ?_; first | omega | (dsimp only; omega)) | (simp; done) | (refine congrArg some ?_; dsimp only; congr 1; omega) | (simp; omega)) ⟨M.sel (by first | ((repeat (first | with_reducible exact Sel.refl | with_reducible exact Sel.nil | with_reducible exact Del.here | with_reducible apply Del.there | with_reducible apply Sel.cons | with_reducible apply Sel.drop)); done) | (repeat (first | exact Sel.refl | exact Sel.nil | exact Del.here | apply Del.there | apply Sel.cons | apply Sel.drop))), ⟨by dsimp only; omega, hs2⟩⟩
    · refine WL.off rfl rfl rfl rfl ?_
      refine WL.off rfl rfl rfl rfl ?_
      refine WL.pickF rfl rfl rfl ?_
      refine WL.nil ?_
      refine WX.next ?_
      refine W.sub [(0, _), (1, _), (6, _), (7, _), (21, _)] (.cons rfl (.cons rfl (.cons rfl (.cons rfl (.cons rfl .nil))))) ?_
      refine W.condF rfl ?_
      refine W.exit ?_
      refine WX.thenExit ?_
      refine WX.thenExit ?_
      refine WX.blockHere ?_
      refine WX.join ((B0, cb0, s0)) (by (repeat' (first | exact envSub.nil | refine envSub.cons ?_ ?_)) <;> first | rfl | (refine congrArg some ?_; refine congrArg (Value.int _) ?_; first | omega | (dsimp only; omega)) | (simp; done) | (refine congrArg some ?_; dsimp only; congr 1; omega) | (simp; omega)) ⟨M.sel (by first | ((repeat (first | with_reducible exact Sel.refl | with_reducible exact Sel.nil | with_reducible exact Del.here | with_reducible apply Del.there | with_reducible apply Sel.cons | with_reducible apply Sel.drop)); done) | (repeat (first | exact Sel.refl | exact Sel.nil | exact Del.here | apply Del.there | apply Sel.cons | apply Sel.drop))), ⟨by dsimp only; omega, hs2⟩⟩
  clear M; rintro (⟨B0, cb0, s0⟩) w ⟨M, ⟨hs1, hs2⟩⟩; dsimp only at M hs1 hs2 ⊢
  refine W.sub [(1, _), (6, _)] (.cons rfl (.cons rfl .nil)) ?_
  refine W.joint (fun (z : Option Addr × Nat × List Int) => [(1, .slice A raw.length cap), (6, .slice z.1 z.2.2.length z.2.1)]) (fun zj w => Mem w0 w ((fun z => [Asr.lst intE z.1 z.2.1 z.2.2]) zj) ∧ (fun z => Sites z.2.2) zj) ?_ ?_
  · refine W.seq ?_
    refine W.region ?_
    refine WL.move rfl rfl ?_
    refine WL.len Try.underlying22 rfl rfl ?_
    refine WL.eqI rfl rfl rfl ?_
    refine WL.nil ?_
    refine WX.next ?_
    refine W.sub [(1, _), (6, _), (36, _)] (.cons rfl (.cons rfl (.cons rfl .nil))) ?_
    refine W.ite rfl (fun c2 => ?_) (fun c2 => ?_)
    · refine W.region ?_
      refine WL.buildL (E := intE) (l := [0, 1, 1]) Try.elem3 M rfl rfl rfl rfl rfl rfl ?_
      intro g7_0 w M
      refine WL.assign rfl rfl ?_
      refine WL.nil ?_
      refine WX.join ((some ⟨g7_0, 0, none⟩, 3, [0, 1, 1])) (by (repeat' (first | exact envSub.nil | refine envSub.cons ?_ ?_)) <;> first | rfl | (refine congrArg some ?_; refine congrArg (Value.int _) ?_; first | omega | (dsimp only; omega)) | (simp; done) | (refine congrArg some ?_; dsimp only; congr 1; omega) | (simp; omega)) ⟨M.sel (by first | ((repeat (first | with_reducible exact Sel.refl | with_reducible exact Sel.nil | with_reducible exact Del.here | with_reducible apply Del.there | with_reducible apply Sel.cons | with_reducible apply Sel.drop)); done) | (repeat (first | exact Sel.refl | exact Sel.nil | exact Del.here | apply Del.there | apply Sel.cons | apply Sel.drop))), (sites_ok (Nat.le_add_left 1 2) (Nat.le_add_right 3 9) (by intro x hx; simp at hx; omega))⟩
    · refine W.skip ?_
      refine WX.join ((B0, cb0, s0)) (by (repeat' (first | exact envSub.nil | refine envSub.cons ?_ ?_)) <;> first | rfl | (refine congrArg some ?_; refine congrArg (Value.int _) ?_; first | omega | (dsimp only; omega)) | (simp; done) | (refine congrArg some ?_; dsimp only; congr 1; omega) | (simp; omega)) ⟨M.sel (by first | ((repeat (first | with_reducible exact Sel.refl | with_reducible exact Sel.nil | with_reducible exact Del.here | with_reducible apply Del.there | with_reducible apply Sel.cons | with_reducible apply Sel.drop)); done) | (repeat (first | exact Sel.refl | exact Sel.nil | exact Del.here | apply Del.there | apply Sel.cons | apply Sel.drop))), (sites_ok (by dsimp only; omega) hs1 hs2)⟩
  clear M; rintro (⟨B, cb, s⟩) w ⟨M, hS⟩; dsimp only at M hS ⊢
  refine W.sub [(1, _), (6, _)] (.cons rfl (.cons rfl .nil)) ?_
  have hlo := hS.lo
  have hhi := hS.hi
  refine W.seq ?_
  refine W.region ?_
  refine WL.assign rfl rfl ?_
  refine WL.nil ?_
  refine WX.next ?_
  refine W.sub [(1, _), (6, _), (8, _)] (.cons rfl (.cons rfl (.cons rfl .nil))) ?_
  refine W.joint (fun (z : Option Addr × Nat × List PlX) => [(6, .slice B s.length cb), (8, .slice z.1 z.2.2.length z.2.1)]) (fun zj w => Mem w0 w ((fun z => [Asr.lst intE B cb s, Asr.lst placeE z.1 z.2.1 z.2.2, Asr.star (z.2.2.map PlX.O)]) zj) ∧ (fun z => z.2.2.length ≤ 60 ∧ Made z.2.2 s.length) zj) ?_ ?_
  · refine W.seq ?_
    refine W.region ?_
    refine WL.assign rfl rfl ?_
    refine WL.nil ?_
    refine WX.next ?_
    refine W.sub [(1, _), (6, _), (8, _), (9, _)] (.cons rfl (.cons rfl (.cons rfl (.cons rfl .nil)))) ?_
    refine W.block ?_
    refine W.loop (ι := Nat × (Option Addr × Nat × List PlX)) (fun z => [(1, .slice A raw.length cap), (6, .slice B s.length cb), (8, .slice z.2.1 z.2.2.2.length z.2.2.1), (9, .int .i64 (z.1 : Int))]) (fun zz w => Mem w0 w ((fun z => [Asr.lst intE B cb s, Asr.lst placeE z.2.1 z.2.2.1 z.2.2.2, Asr.star (z.2.2.2.map PlX.O)]) zz) ∧ (fun z => z.1 ≤ 60 ∧ z.2.2.2.length = z.1 ∧ Made z.2.2.2 s.length) zz) (fun z => 60 - z.1) ((0, (none, 0, []))) (by (repeat' (first | exact envSub.nil | refine envSub.cons ?_ ?_)) <;> first | rfl | (refine congrArg some ?_; refine congrArg (Value.int _) ?_; first | omega | (dsimp only; omega)) | (simp; done) | (refine congrArg some ?_; dsimp only; congr 1; omega) | (simp; omega)) ⟨((Mem.nilOwn (Mem.starNil (M.sel (K := [Asr.lst intE B cb s]) (by first | ((repeat (first | with_reducible exact Sel.refl | with_reducible exact Sel.nil | with_reducible exact Del.here | with_reducible apply Del.there | with_reducible apply Sel.cons | with_reducible apply Sel.drop)); done) | (repeat (first | exact Sel.refl | exact Sel.nil | exact Del.here | apply Del.there | apply Sel.cons | apply Sel.drop))))) 44 2).sel (K := [Asr.lst intE B cb s, Asr.own 44 2 none 0 0 [], Asr.star []]) (by first | ((repeat (first | with_reducible exact Sel.refl | with_reducible exact Sel.nil | with_reducible exact Del.here | with_reducible apply Del.there | with_reducible apply Sel.cons | with_reducible apply Sel.drop)); done) | (repeat (first | exact Sel.refl | exact Sel.nil | exact Del.here | apply Del.there | apply Sel.cons | apply Sel.drop)))), ⟨Nat.zero_le _, rfl, fun k hk => absurd hk (Nat.not_lt_zero _), fun p hp => by cases hp⟩⟩ ?_
    clear M; rintro (⟨i, C, cc, l⟩) w ⟨M, ⟨hi, hll, hmd⟩⟩; dsimp only at M hi hll hmd ⊢
    refine W.sub [(1, _), (6, _), (8, _), (9, _)] (.cons rfl (.cons rfl (.cons rfl (.cons rfl .nil)))) ?_
    refine W.seq ?_
    refine W.seq ?_
    refine W.region ?_
    refine WL.move rfl rfl ?_
    refine WL.move rfl rfl ?_
    refine WL.len Try.underlying24 rfl rfl ?_
    refine WL.lss rfl rfl rfl ?_
    refine WL.moveIf rfl rfl (fun c3 => ?_) (fun c3 => ?_)
    · refine WL.on rfl rfl ?_
      refine WL.move rfl rfl ?_
      refine WL.on rfl rfl ?_
      refine WL.lss rfl rfl rfl ?_
      refine WL.pickT rfl rfl rfl ?_
      refine WL.nil ?_
      refine WX.next ?_
      refine W.sub [(1, _), (6, _), (8, _), (9, _), (45, _)] (.cons rfl (.cons rfl (.cons rfl (.cons rfl (.cons rfl .nil))))) ?_
      refine W.ite rfl (fun c4 => ?_) (fun c4 => ?_)
      · have hil : i < raw.length := by omega
        have hrd := h.at_ hil
        have hnl := hrn _ (el_mem hil)
        refine W.skip ?_
        refine WX.next ?_
        refine W.seq ?_
        refine W.block ?_
        refine W.seq ?_
        refine W.region ?_
        refine WL.assign rfl rfl ?_
        refine WL.nil ?_
        refine WX.next ?_
        refine W.sub [(1, _), (6, _), (8, _), (9, _), (10, _)] (.cons rfl (.cons rfl (.cons rfl (.cons rfl (.cons rfl .nil))))) ?_
        refine W.joint (fun (set : Nat) => [(1, .slice A raw.length cap), (6, .slice B s.length cb), (8, .slice C l.length cc), (9, .int .i64 (i : Int)), (10, .int .u32 (set : Int))]) (fun zj w => Mem w0 w ((fun _ => [Asr.lst intE B cb s, Asr.lst placeE C cc l, Asr.star (l.map PlX.O)]) zj) ∧ (fun set => set < 4294967296) zj) ?_ ?_
        · refine W.seq ?_
          refine W.region ?_
          refine WL.assign rfl rfl ?_
          refine WL.nil ?_
          refine WX.next ?_
          refine W.sub [(1, _), (6, _), (8, _), (9, _), (10, _), (11, _)] (.cons rfl (.cons rfl (.cons rfl (.cons rfl (.cons rfl (.cons rfl .nil)))))) ?_
          refine W.block ?_
          refine W.loop (ι := Nat × Nat) (fun z => [(1, .slice A raw.length cap), (6, .slice B s.length cb), (8, .slice C l.length cc), (9, .int .i64 (i : Int)), (10, .int .u32 (z.2 : Int)), (11, .int .i64 (z.1 : Int))]) (fun zz w => Mem w0 w ((fun z => [Asr.lst intE B cb s, Asr.lst placeE C cc l, Asr.star (l.map PlX.O)]) zz) ∧ (fun z => z.1 ≤ (el raw i).nodes.length ∧ z.2 < 4294967296) zz) (fun z => (el raw i).nodes.length - z.1) ((0, 0)) (by (repeat' (first | exact envSub.nil | refine envSub.cons ?_ ?_)) <;> first | rfl | (refine congrArg some ?_; refine congrArg (Value.int _) ?_; first | omega | (dsimp only; omega)) | (simp; done) | (refine congrArg some ?_; dsimp only; congr 1; omega) | (simp; omega)) ⟨M.sel (by first | ((repeat (first | with_reducible exact Sel.refl | with_reducible exact Sel.nil | with_reducible exact Del.here | with_reducible apply Del.there | with_reducible apply Sel.cons | with_reducible apply Sel.drop)); done) | (repeat (first | exact Sel.refl | exact Sel.nil | exact Del.here | apply Del.there | apply Sel.cons | apply Sel.drop))), ⟨Nat.zero_le _, by decide⟩⟩ ?_
          clear M; rintro (⟨k, set⟩) w ⟨M, ⟨hk, hset⟩⟩; dsimp only at M hk hset ⊢
          refine W.sub [(1, _), (6, _), (8, _), (9, _), (10, _), (11, _)] (.cons rfl (.cons rfl (.cons rfl (.cons rfl (.cons rfl (.cons rfl .nil)))))) ?_
          refine W.seq ?_
          refine W.seq ?_
          refine W.region ?_
          refine WL.move rfl rfl ?_
          refine WL.move rfl rfl ?_
          refine WL.move rfl rfl ?_
          refine WL.idxA Try.underlying24 Try.sizeOf44 rfl rfl (RdL.isSome (E := placeE) (by first | with_reducible assumption | with_reducible exact RdL.mem (by with_reducible assumption) M | exact M.rdL (by first | ((repeat (first | with_reducible exact Has.here | with_reducible refine Has.there ?_)); done) | (repeat (first | exact Has.here | refine Has.there ?_))) | exact RdLH.at (by assumption) (M.sel (by first | ((repeat (first | with_reducible exact Sel.refl | with_reducible exact Sel.nil | with_reducible exact Del.here | with_reducible apply Del.there | with_reducible apply Sel.cons | with_reducible apply Sel.drop)); done) | (repeat (first | exact Sel.refl | exact Sel.nil | exact Del.here | apply Del.there | apply Sel.cons | apply Sel.drop)))) | exact RdL.nil _ _ _) (by omega)) (by omega) (by omega) (by first | exact rfl | exact (Int.toNat_of_nonneg (by omega)).symm) rfl ?_
          refine WL.fieldA (off := 1) Try.underlying44 rfl rfl Try.sizeOf22 rfl rfl rfl ?_
          refine WL.loadE (E := placeE) Try.isAgg22 rfl (by first | with_reducible assumption | with_reducible exact RdL.mem (by with_reducible assumption) M | exact M.rdL (by first | ((repeat (first | with_reducible exact Has.here | with_reducible refine Has.there ?_)); done) | (repeat (first | exact Has.here | refine Has.there ?_))) | exact RdLH.at (by assumption) (M.sel (by first | ((repeat (first | with_reducible exact Sel.refl | with_reducible exact Sel.nil | with_reducible exact Del.here | with_reducible apply Del.there | with_reducible apply Sel.cons | with_reducible apply Sel.drop)); done) | (repeat (first | exact Sel.refl | exact Sel.nil | exact Del.here | apply Del.there | apply Sel.cons | apply Sel.drop)))) | exact RdL.nil _ _ _) (by omega) rfl rfl ?_
          refine WL.len Try.underlying22 rfl rfl ?_
          refine WL.lss rfl rfl rfl ?_
          refine WL.moveIf rfl rfl (fun c5 => ?_) (fun c5 => ?_)
          · refine WL.on rfl rfl ?_
            refine WL.move rfl rfl ?_
            refine WL.on rfl rfl ?_
            refine WL.lss rfl rfl rfl ?_
            refine WL.pickT rfl rfl rfl ?_
            refine WL.nil ?_
            refine WX.next ?_
            refine W.sub [(1, _), (6, _), (8, _), (9, _), (10, _), (11, _), (59, _)] (.cons rfl (.cons rfl (.cons rfl (.cons rfl (.cons rfl (.cons rfl (.cons rfl .nil))))))) ?_
            refine W.ite rfl (fun c6 => ?_) (fun c6 => ?_)
            · have hkl : k < (el raw i).nodes.length := by omega
              obtain ⟨bn, hbn⟩ : ∃ bn : Nat, el (el raw i).nodes k % 18446744073709551616 % (s.length : Int) = (bn : Int) := ⟨(el (el raw i).nodes k % 18446744073709551616 % (s.length : Int)).toNat, (Int.toNat_of_nonneg (Int.emod_nonneg _ (by omega))).symm⟩
              have hbl : bn < s.length := by
                have := Int.emod_lt_of_pos (el (el raw i).nodes k % 18446744073709551616) (show (0 : Int) < (s.length : Int) by omega)
                omega
              obtain ⟨hb1, hb2⟩ := bit_set set bn hset (by omega)
              refine W.skip ?_
              refine WX.next ?_
              refine W.seq ?_
              refine W.block ?_
              refine W.region ?_
              refine WL.move rfl rfl ?_
              refine WL.move rfl rfl ?_
              refine WL.move rfl rfl ?_
              refine WL.idxA Try.underlying24 Try.sizeOf44 rfl rfl (RdL.isSome (E := placeE) (by first | with_reducible assumption | with_reducible exact RdL.mem (by with_reducible assumption) M | exact M.rdL (by first | ((repeat (first | with_reducible exact Has.here | with_reducible refine Has.there ?_)); done) | (repeat (first | exact Has.here | refine Has.there ?_))) | exact RdLH.at (by assumption) (M.sel (by first | ((repeat (first | with_reducible exact Sel.refl | with_reducible exact Sel.nil | with_reducible exact Del.here | with_reducible apply Del.there | with_reducible apply Sel.cons | with_reducible apply Sel.drop)); done) | (repeat (first | exact Sel.refl | exact Sel.nil | exact Del.here | apply Del.there | apply Sel.cons | apply Sel.drop)))) | exact RdL.nil _ _ _) (by omega)) (by omega) (by omega) (by first | exact rfl | exact (Int.toNat_of_nonneg (by omega)).symm) rfl ?_
              refine WL.fieldA (off := 1) Try.underlying44 rfl rfl Try.sizeOf22 rfl rfl rfl ?_
              refine WL.loadE (E := placeE) Try.isAgg22 rfl (by first | with_reducible assumption | with_reducible exact RdL.mem (by with_reducible assumption) M | exact M.rdL (by first | ((repeat (first | with_reducible exact Has.here | with_reducible refine Has.there ?_)); done) | (repeat (first | exact Has.here | refine Has.there ?_))) | exact RdLH.at (by assumption) (M.sel (by first | ((repeat (first | with_reducible exact Sel.refl | with_reducible exact Sel.nil | with_reducible exact Del.here | with_reducible apply Del.there | with_reducible apply Sel.cons | with_reducible apply Sel.drop)); done) | (repeat (first | exact Sel.refl | exact Sel.nil | exact Del.here | apply Del.there | apply Sel.cons | apply Sel.drop)))) | exact RdL.nil _ _ _) (by omega) rfl rfl ?_
              refine WL.move rfl rfl ?_
              refine WL.idxA Try.underlying22 Try.sizeOf3 rfl rfl (RdL.isSome (E := intE) (by first | with_reducible assumption | with_reducible exact RdL.mem (by with_reducible assumption) M | exact M.rdL (by first | ((repeat (first | with_reducible exact Has.here | with_reducible refine Has.there ?_)); done) | (repeat (first | exact Has.here | refine Has.there ?_))) | exact RdLH.at (by assumption) (M.sel (by first | ((repeat (first | with_reducible exact Sel.refl | with_reducible exact Sel.nil | with_reducible exact Del.here | with_reducible apply Del.there | with_reducible apply Sel.cons | with_reducible apply Sel.drop)); done) | (repeat (first | exact Sel.refl | exact Sel.nil | exact Del.here | apply Del.there | apply Sel.cons | apply Sel.drop)))) | exact RdL.nil _ _ _) (by omega)) (by omega) (by omega) (by first | exact rfl | exact (Int.toNat_of_nonneg (by omega)).symm) rfl ?_
              refine WL.loadE0 (E := intE) Try.isAgg3 rfl (by first | with_reducible assumption | with_reducible exact RdL.mem (by with_reducible assumption) M | exact M.rdL (by first | ((repeat (first | with_reducible exact Has.here | with_reducible refine Has.there ?_)); done) | (repeat (first | exact Has.here | refine Has.there ?_))) | exact RdLH.at (by assumption) (M.sel (by first | ((repeat (first | with_reducible exact Sel.refl | with_reducible exact Sel.nil | with_reducible exact Del.here | with_reducible apply Del.there | with_reducible apply Sel.cons | with_reducible apply Sel.drop)); done) | (repeat (first | exact Sel.refl | exact Sel.nil | exact Del.here | apply Del.there | apply Sel.cons | apply Sel.drop)))) | exact RdL.nil _ _ _) (by omega) rfl rfl ?_
              refine WL.conv Try.underlying3 Try.underlying25 rfl (by first | exact wU64 (by omega) | exact mU64 _ | rfl) rfl ?_
              refine WL.move rfl rfl ?_
              refine WL.len Try.underlying22 rfl rfl ?_
              refine WL.conv Try.underlying3 Try.underlying25 rfl (by first | exact wU64 (by omega) | exact mU64 _ | rfl) rfl ?_
              refine WL.rem rfl rfl (by omega) (remN (by omega)) rfl ?_
              rw [hbn]
              refine WL.conv Try.underlying25 Try.underlying3 rfl (by first | exact wI64 (by omega) | rfl) rfl ?_
              refine WL.conv Try.underlying3 Try.underlying25 rfl (by first | exact wU64 (by omega) | exact mU64 _ | rfl) rfl ?_
              refine WL.shl rfl rfl (by omega) (by show _ ≤ (32 : Int); omega) rfl rfl ?_
              refine WL.bor rfl rfl hb1 rfl ?_
              refine WL.assign rfl rfl ?_
              refine WL.nil ?_
              refine WX.blockNormal ?_
              refine WX.next ?_
              refine W.sub [(1, _), (6, _), (8, _), (9, _), (10, _), (11, _)] (.cons rfl (.cons rfl (.cons rfl (.cons rfl (.cons rfl (.cons rfl .nil)))))) ?_
              refine W.region ?_
              refine WL.move rfl rfl ?_
              refine WL.add rfl rfl (by first | exact wI64 (by omega) | rfl) rfl ?_
              refine WL.assign rfl rfl ?_
              refine WL.nil ?_
              refine WX.round ((k + 1, set ||| 2 ^ bn)) (by (repeat' (first | exact envSub.nil | refine envSub.cons ?_ ?_)) <;> first | rfl | (refine congrArg some ?_; refine congrArg (Value.int _) ?_; first | omega | (dsimp only; omega)) | (simp; done) | (refine congrArg some ?_; dsimp only; congr 1; omega) | (simp; omega)) ⟨M.sel (by first | ((repeat (first | with_reducible exact Sel.refl | with_reducible exact Sel.nil | with_reducible exact Del.here | with_reducible apply Del.there | with_reducible apply Sel.cons | with_reducible apply Sel.drop)); done) | (repeat (first | exact Sel.refl | exact Sel.nil | exact Del.here | apply Del.there | apply Sel.cons | apply Sel.drop))), ⟨by dsimp only; omega, hb2⟩⟩ (by first | omega | (dsimp only; omega))
            · refine W.exit ?_
              refine WX.thenExit ?_
              refine WX.thenExit ?_
              refine WX.blockHere ?_
              refine WX.join (set) (by (repeat' (first | exact envSub.nil | refine envSub.cons ?_ ?_)) <;> first | rfl | (refine congrArg some ?_; refine congrArg (Value.int _) ?_; first | omega | (dsimp only; omega)) | (simp; done) | (refine congrArg some ?_; dsimp only; congr 1; omega) | (simp; omega)) ⟨M.sel (by first | ((repeat (first | with_reducible exact Sel.refl | with_reducible exact Sel.nil | with_reducible exact Del.here | with_reducible apply Del.there | with_reducible apply Sel.cons | with_reducible apply Sel.drop)); done) | (repeat (first | exact Sel.refl | exact Sel.nil | exact Del.here | apply Del.there | apply Sel.cons | apply Sel.drop))), hset⟩
          · refine WL.off rfl rfl rfl rfl ?_
            refine WL.off rfl rfl rfl rfl ?_
            refine WL.pickF rfl rfl rfl ?_
            refine WL.nil ?_
            refine WX.next ?_
            refine W.sub [(1, _), (6, _), (8, _), (9, _), (10, _), (11, _), (59, _)] (.cons rfl (.cons rfl (.cons rfl (.cons rfl (.cons rfl (.cons rfl (.cons rfl .nil))))))) ?_
            refine W.condF rfl ?_
            refine W.exit ?_
            refine WX.thenExit ?_
            refine WX.thenExit ?_
            refine WX.blockHere ?_
            refine WX.join (set) (by (repeat' (first | exact envSub.nil | refine envSub.cons ?_ ?_)) <;> first | rfl | (refine congrArg some ?_; refine congrArg (Value.int _) ?_; first | omega | (dsimp only; omega)) | (simp; done) | (refine congrArg some ?_; dsimp only; congr 1; omega) | (simp; omega)) ⟨M.sel (by first | ((repeat (first | with_reducible exact Sel.refl | with_reducible exact Sel.nil | with_reducible exact Del.here | with_reducible apply Del.there | with_reducible apply Sel.cons | with_reducible apply Sel.drop)); done) | (repeat (first | exact Sel.refl | exact Sel.nil | exact Del.here | apply Del.there | apply Sel.cons | apply Sel.drop))), hset⟩
        clear M; rintro (set) w ⟨M, hset⟩; dsimp only at M hset ⊢
        refine W.sub [(1, _), (6, _), (8, _), (9, _), (10, _)] (.cons rfl (.cons rfl (.cons rfl (.cons rfl (.cons rfl .nil))))) ?_
        refine W.seq ?_
        refine W.region ?_
        refine WL.move rfl rfl ?_
        refine WL.buildP (places := #[(0, 1), (1, 1)]) Try.underlying44 Try.zeroValue44 (fun _ => by simp [Try.sizeOf3, Try.sizeOf22]) rfl (by repeat (first | exact Puts.nil | exact SetAt.zero | apply SetAt.succ | apply Puts.cons rfl rfl)) rfl ?_
        refine WL.alloc Try.zeroValue44 M rfl ?_
        intro g17_2 w M
        try simp only [Value.cells] at M
        try simp only [List.toList_toArray] at M
        refine WL.storeWA Try.sizeOf44 rfl rfl (by repeat (first | exact oneNil | refine oneCons rfl ?_)) rfl rfl M (by first | ((repeat (first | with_reducible exact Upd.here | with_reducible apply Upd.there)); done) | (repeat (first | exact Upd.here | apply Upd.there))) ?_
        intro w M
        refine WL.nil ?_
        refine WX.next ?_
        refine W.sub [(1, _), (6, _), (8, _), (9, _), (10, _), (12, _)] (.cons rfl (.cons rfl (.cons rfl (.cons rfl (.cons rfl (.cons rfl .nil)))))) ?_
        refine W.seq ?_
        refine W.seq ?_
        refine W.region ?_
        refine WL.assign rfl rfl ?_
        refine WL.nil ?_
        refine WX.next ?_
        refine W.sub [(1, _), (6, _), (8, _), (9, _), (10, _), (12, _), (13, _)] (.cons rfl (.cons rfl (.cons rfl (.cons rfl (.cons rfl (.cons rfl (.cons rfl .nil))))))) ?_
        refine W.block ?_
        refine W.loop (ι := Nat × (Option Addr × Nat × List Int)) (fun z => [(1, .slice A raw.length cap), (6, .slice B s.length cb), (8, .slice C l.length cc), (9, .int .i64 (i : Int)), (10, .int .u32 (set : Int)), (12, .pointer (some ⟨g17_2, 0, none⟩)), (13, .int .i64 (z.1 : Int))]) (fun zz w => Mem w0 w ((fun z => [Asr.lst intE B cb s, Asr.lst placeE C cc l, Asr.star (l.map PlX.O), Asr.row g17_2 44 [.int .i64 (i : Int), .slice z.2.1 z.2.2.2.length z.2.2.1], Asr.lst intE z.2.1 z.2.2.1 z.2.2.2]) zz) ∧ (fun z => z.1 ≤ s.length ∧ z.2.2.2.Pairwise (· < ·) ∧ (∀ x ∈ z.2.2.2, 0 ≤ x ∧ x < (z.1 : Int)) ∧ z.2.2.2.length ≤ z.1) zz) (fun z => s.length - z.1) ((0, (none, 0, []))) (by (repeat' (first | exact envSub.nil | refine envSub.cons ?_ ?_)) <;> first | rfl | (refine congrArg some ?_; refine congrArg (Value.int _) ?_; first | omega | (dsimp only; omega)) | (simp; done) | (refine congrArg some ?_; dsimp only; congr 1; omega) | (simp; omega)) ⟨((M.nilOwn 3 1).sel (K := [Asr.lst intE B cb s, Asr.lst placeE C cc l, Asr.star (l.map PlX.O), Asr.row g17_2 44 [.int .i64 (i : Int), .slice none 0 0], Asr.own 3 1 none 0 0 []]) (by first | ((repeat (first | with_reducible exact Sel.refl | with_reducible exact Sel.nil | with_reducible exact Del.here | with_reducible apply Del.there | with_reducible apply Sel.cons | with_reducible apply Sel.drop)); done) | (repeat (first | exact Sel.refl | exact Sel.nil | exact Del.here | apply Del.there | apply Sel.cons | apply Sel.drop)))), ⟨Nat.zero_le _, List.Pairwise.nil, fun x hx => (by cases hx), Nat.zero_le _⟩⟩ ?_
        clear M; rintro (⟨n, D, cd, nd⟩) w ⟨M, ⟨hn, hp1, hp2, hp3⟩⟩; dsimp only at M hn hp1 hp2 hp3 ⊢
        refine W.sub [(1, _), (6, _), (8, _), (9, _), (10, _), (12, _), (13, _)] (.cons rfl (.cons rfl (.cons rfl (.cons rfl (.cons rfl (.cons rfl (.cons rfl .nil))))))) ?_
        refine W.seq ?_
        refine W.seq ?_
        refine W.region ?_
        refine WL.move rfl rfl ?_
        refine WL.move rfl rfl ?_
        refine WL.len Try.underlying22 rfl rfl ?_
        refine WL.lss rfl rfl rfl ?_
        refine WL.nil ?_
        refine WX.next ?_
        refine W.sub [(1, _), (6, _), (8, _), (9, _), (10, _), (12, _), (13, _), (85, _)] (.cons rfl (.cons rfl (.cons rfl (.cons rfl (.cons rfl (.cons rfl (.cons rfl (.cons rfl .nil)))))))) ?_
        refine W.ite rfl (fun c7 => ?_) (fun c7 => ?_)
        · have hd : set / 2 ^ n < 4294967296 := Nat.lt_of_le_of_lt (Nat.div_le_self ..) hset
          refine W.skip ?_
          refine WX.next ?_
          refine W.seq ?_
          refine W.block ?_
          refine W.seq ?_
          refine W.region ?_
          refine WL.move rfl rfl ?_
          refine WL.move rfl rfl ?_
          refine WL.conv Try.underlying3 Try.underlying25 rfl (by first | exact wU64 (by omega) | exact mU64 _ | rfl) rfl ?_
          refine WL.shr rfl rfl (by omega) (by show _ ≤ (32 : Int); omega) (shr_bit set n) rfl ?_
          refine WL.band rfl rfl (and_one _ hd) rfl ?_
          refine WL.eqI rfl rfl rfl ?_
          refine WL.nil ?_
          refine WX.next ?_
          refine W.sub [(1, _), (6, _), (8, _), (9, _), (10, _), (12, _), (13, _), (93, _)] (.cons rfl (.cons rfl (.cons rfl (.cons rfl (.cons rfl (.cons rfl (.cons rfl (.cons rfl .nil)))))))) ?_
          refine W.ite rfl (fun c8 => ?_) (fun c8 => ?_)
          · refine W.region ?_
            refine WL.fieldR (off := 1) Try.underlying44 rfl rfl Try.sizeOf22 rfl rfl rfl ?_
            refine WL.loadR Try.isAgg22 rfl M (by first | ((repeat (first | with_reducible exact Has.here | with_reducible refine Has.there ?_)); done) | (repeat (first | exact Has.here | refine Has.there ?_))) rfl rfl ?_
            refine WL.move rfl rfl ?_
            refine WL.buildL (E := intE) (l := [(n : Int)]) Try.elem3 M rfl rfl rfl rfl rfl rfl ?_
            intro g22_3 w M
            refine WL.appendL (E := intE) Try.elem3 rfl rfl M (by first | ((repeat (first | with_reducible exact Del.here | with_reducible apply Del.there)); done) | (repeat (first | exact Del.here | apply Del.there))) (by first | with_reducible assumption | with_reducible exact RdL.mem (by with_reducible assumption) M | exact M.rdL (by first | ((repeat (first | with_reducible exact Has.here | with_reducible refine Has.there ?_)); done) | (repeat (first | exact Has.here | refine Has.there ?_))) | exact RdLH.at (by assumption) (M.sel (by first | ((repeat (first | with_reducible exact Sel.refl | with_reducible exact Sel.nil | with_reducible exact Del.here | with_reducible apply Del.there | with_reducible apply Sel.cons | with_reducible apply Sel.drop)); done) | (repeat (first | exact Sel.refl | exact Sel.nil | exact Del.here | apply Del.there | apply Sel.cons | apply Sel.drop)))) | exact RdL.nil _ _ _) rfl rfl (by first | omega | (simp; done) | (simp; omega)) (by first | (simp only [maxLen]; omega) | (simp [maxLen]; done) | (simp [maxLen]; omega)) rfl ?_
            intro A22_4 cap22_4 w M
            refine WL.fieldR (off := 1) Try.underlying44 rfl rfl Try.sizeOf22 rfl rfl rfl ?_
            refine WL.storeR Try.sizeOf22 rfl rfl rfl M (by first | ((repeat (first | with_reducible exact Has.here | with_reducible refine Has.there ?_)); done) | (repeat (first | exact Has.here | refine Has.there ?_))) (by repeat (first | exact SetAt.zero | apply SetAt.succ)) (by first | ((repeat (first | with_reducible exact Upd.here | with_reducible apply Upd.there)); done) | (repeat (first | exact Upd.here | apply Upd.there))) ?_
            intro w M
            refine WL.nil ?_
            refine WX.blockNormal ?_
            refine WX.next ?_
            refine W.sub [(1, _), (6, _), (8, _), (9, _), (10, _), (12, _), (13, _)] (.cons rfl (.cons rfl (.cons rfl (.cons rfl (.cons rfl (.cons rfl (.cons rfl .nil))))))) ?_
            refine W.region ?_
            refine WL.move rfl rfl ?_
            refine WL.add rfl rfl (by first | exact wI64 (by omega) | rfl) rfl ?_
            refine WL.assign rfl rfl ?_
            refine WL.nil ?_
            skip
            have q1 : (nd ++ [(n : Int)]).Pairwise (· < ·) := by
              rw [List.pairwise_append]
              exact ⟨hp1, by simp, fun x hx y hy => by have e : y = (n : Int) := (by simpa using hy); rw [e]; exact (hp2 x hx).2⟩
            have q2 : ∀ x ∈ nd ++ [(n : Int)], 0 ≤ x ∧ x < ((n + 1 : Nat) : Int) := by
              intro x hx
              rcases List.mem_append.1 hx with hx | hx
              · have := hp2 x hx
                omega
              · have e : x = (n : Int) := by simpa using hx
                omega
            have q3 : (nd ++ [(n : Int)]).length ≤ n + 1 := by simp; omega
            refine WX.round ((n + 1, (A22_4, cap22_4, nd ++ [(n : Int)]))) (by (repeat' (first | exact envSub.nil | refine envSub.cons ?_ ?_)) <;> first | rfl | (refine congrArg some ?_; refine congrArg (Value.int _) ?_; first | omega | (dsimp only; omega)) | (simp; done) | (refine congrArg some ?_; dsimp only; congr 1; omega) | (simp; omega)) ⟨M.sel (by first | ((repeat (first | with_reducible exact Sel.refl | with_reducible exact Sel.nil | with_reducible exact Del.here | with_reducible apply Del.there | with_reducible apply Sel.cons | with_reducible apply Sel.drop)); done) | (repeat (first | exact Sel.refl | exact Sel.nil | exact Del.here | apply Del.there | apply Sel.cons | apply Sel.drop))), ⟨by dsimp only; omega, q1, q2, q3⟩⟩ (by first | omega | (dsimp only; omega))
          · refine W.skip ?_
            refine WX.blockNormal ?_
            refine WX.next ?_
            refine W.region ?_
            refine WL.move rfl rfl ?_
            refine WL.add rfl rfl (by first | exact wI64 (by omega) | rfl) rfl ?_
            refine WL.assign rfl rfl ?_
            refine WL.nil ?_
            skip
            have q2 : ∀ x ∈ nd, 0 ≤ x ∧ x < ((n + 1 : Nat) : Int) := by
              intro x hx
              have := hp2 x hx
              omega
            refine WX.round ((n + 1, (D, cd, nd))) (by (repeat' (first | exact envSub.nil | refine envSub.cons ?_ ?_)) <;> first | rfl | (refine congrArg some ?_; refine congrArg (Value.int _) ?_; first | omega | (dsimp only; omega)) | (simp; done) | (refine congrArg some ?_; dsimp only; congr 1; omega) | (simp; omega)) ⟨M.sel (by first | ((repeat (first | with_reducible exact Sel.refl | with_reducible exact Sel.nil | with_reducible exact Del.here | with_reducible apply Del.there | with_reducible apply Sel.cons | with_reducible apply Sel.drop)); done) | (repeat (first | exact Sel.refl | exact Sel.nil | exact Del.here | apply Del.there | apply Sel.cons | apply Sel.drop))), ⟨by dsimp only; omega, hp1, q2, by dsimp only; omega⟩⟩ (by first | omega | (dsimp only; omega))
        · obtain rfl : n = s.length := by omega
          refine W.exit ?_
          refine WX.thenExit ?_
          refine WX.thenExit ?_
          refine WX.blockHere ?_
          refine WX.next ?_
          refine W.region ?_
          refine WL.move rfl rfl ?_
          refine WL.loadW Try.isAgg44 Try.sizeOf44 rfl M (by first | ((repeat (first | with_reducible exact Has.here | with_reducible refine Has.there ?_)); done) | (repeat (first | exact Has.here | refine Has.there ?_))) rfl rfl ?_
          refine WL.buildL (E := placeE) (l := [(⟨(i : Int), D, cd, nd⟩ : PlX)]) Try.elem44 M rfl rfl rfl rfl rfl rfl ?_
          intro g23_2 w M
          refine WL.appendL (E := placeE) Try.elem44 rfl rfl M (by first | ((repeat (first | with_reducible exact Del.here | with_reducible apply Del.there)); done) | (repeat (first | exact Del.here | apply Del.there))) (by first | with_reducible assumption | with_reducible exact RdL.mem (by with_reducible assumption) M | exact M.rdL (by first | ((repeat (first | with_reducible exact Has.here | with_reducible refine Has.there ?_)); done) | (repeat (first | exact Has.here | refine Has.there ?_))) | exact RdLH.at (by assumption) (M.sel (by first | ((repeat (first | with_reducible exact Sel.refl | with_reducible exact Sel.nil | with_reducible exact Del.here | with_reducible apply Del.there | with_reducible apply Sel.cons | with_reducible apply Sel.drop)); done) | (repeat (first | exact Sel.refl | exact Sel.nil | exact Del.here | apply Del.there | apply Sel.cons | apply Sel.drop)))) | exact RdL.nil _ _ _) rfl rfl (by first | omega | (simp; done) | (simp; omega)) (by first | (simp only [maxLen]; omega) | (simp [maxLen]; done) | (simp [maxLen]; omega)) rfl ?_
          intro A23_3 cap23_3 w M
          refine WL.assign rfl rfl ?_
          refine WL.nil ?_
          refine WX.blockNormal ?_
          refine WX.next ?_
          refine W.sub [(1, _), (6, _), (8, _), (9, _)] (.cons rfl (.cons rfl (.cons rfl (.cons rfl .nil)))) ?_
          refine W.region ?_
          refine WL.move rfl rfl ?_
          refine WL.add rfl rfl (by first | exact wI64 (by omega) | rfl) rfl ?_
          refine WL.assign rfl rfl ?_
          refine WL.nil ?_
          skip
          have q := hmd.snoc (p := (⟨(i : Int), D, cd, nd⟩ : PlX)) (by rw [hll]) hp1 hp2
          have M2 : Mem w0 w [Asr.star ((l ++ [(⟨(i : Int), D, cd, nd⟩ : PlX)]).map PlX.O), Asr.lst intE B cb s, Asr.lst placeE A23_3 cap23_3 (l ++ [(⟨(i : Int), D, cd, nd⟩ : PlX)])] := by
            rw [List.map_append]
            refine Mem.starSnoc ?_
            exact M.sel (by first | ((repeat (first | with_reducible exact Sel.refl | with_reducible exact Sel.nil | with_reducible exact Del.here | with_reducible apply Del.there | with_reducible apply Sel.cons | with_reducible apply Sel.drop)); done) | (repeat (first | exact Sel.refl | exact Sel.nil | exact Del.here | apply Del.there | apply Sel.cons | apply Sel.drop)))
          replace M := M2
          refine WX.round ((i + 1, (A23_3, cap23_3, l ++ [(⟨(i : Int), D, cd, nd⟩ : PlX)]))) (by (repeat' (first | exact envSub.nil | refine envSub.cons ?_ ?_)) <;> first | rfl | (refine congrArg some ?_; refine congrArg (Value.int _) ?_; first | omega | (dsimp only; omega)) | (simp; done) | (refine congrArg some ?_; dsimp only; congr 1; omega) | (simp; omega)) ⟨M.sel (by first | ((repeat (first | with_reducible exact Sel.refl | with_reducible exact Sel.nil | with_reducible exact Del.here | with_reducible apply Del.there | with_reducible apply Sel.cons | with_reducible apply Sel.drop)); done) | (repeat (first | exact Sel.refl | exact Sel.nil | exact Del.here | apply Del.there | apply Sel.cons | apply Sel.drop))), ⟨by dsimp only; omega, by simp; omega, q⟩⟩ (by first | omega | (dsimp only; omega))
      · refine W.exit ?_
        refine WX.thenExit ?_
        refine WX.thenExit ?_
        refine WX.blockHere ?_
        refine WX.join ((C, cc, l)) (by (repeat' (first | exact envSub.nil | refine envSub.cons ?_ ?_)) <;> first | rfl | (refine congrArg some ?_; refine congrArg (Value.int _) ?_; first | omega | (dsimp only; omega)) | (simp; done) | (refine congrArg some ?_; dsimp only; congr 1; omega) | (simp; omega)) ⟨M.sel (by first | ((repeat (first | with_reducible exact Sel.refl | with_reducible exact Sel.nil | with_reducible exact Del.here | with_reducible apply Del.there | with_reducible apply Sel.cons | with_reducible apply Sel.drop)); done) | (repeat (first | exact Sel.refl | exact Sel.nil | exact Del.here | apply Del.there | apply Sel.cons | apply Sel.drop))), ⟨by dsimp only; omega, hmd⟩⟩
    · refine WL.off rfl rfl rfl rfl ?_
      refine WL.off rfl rfl rfl rfl ?_
      refine WL.pickF rfl rfl rfl ?_
      refine WL.nil ?_
      refine WX.next ?_
      refine W.sub [(1, _), (6, _), (8, _), (9, _), (45, _)] (.cons rfl (.cons rfl (.cons rfl (.cons rfl (.cons rfl .nil))))) ?_
      refine W.condF rfl ?_
      refine W.exit ?_
      refine WX.thenExit ?_
      refine WX.thenExit ?_
      refine WX.blockHere ?_
      refine WX.join ((C, cc, l)) (by (repeat' (first | exact envSub.nil | refine envSub.cons ?_ ?_)) <;> first | rfl | (refine congrArg some ?_; refine congrArg (Value.int _) ?_; first | omega | (dsimp only; omega)) | (simp; done) | (refine congrArg some ?_; dsimp only; congr 1; omega) | (simp; omega)) ⟨M.sel (by first | ((repeat (first | with_reducible exact Sel.refl | with_reducible exact Sel.nil | with_reducible exact Del.here | with_reducible apply Del.there | with_reducible apply Sel.cons | with_reducible apply Sel.drop)); done) | (repeat (first | exact Sel.refl | exact Sel.nil | exact Del.here | apply Del.there | apply Sel.cons | apply Sel.drop))), ⟨by dsimp only; omega, hmd⟩⟩
  clear M; rintro (⟨C, cc, l⟩) w ⟨M, ⟨hl1, hl2⟩⟩; dsimp only at M hl1 hl2 ⊢
  refine W.sub [(6, _), (8, _)] (.cons rfl (.cons rfl .nil)) ?_
  refine W.seq ?_
  refine W.region ?_
  refine WL.move rfl rfl ?_
  refine WL.move rfl rfl ?_
  refine WL.assign rfl rfl ?_
  refine WL.assign rfl rfl ?_
  refine WL.nil ?_
  refine WX.next ?_
  refine W.sub [(4, _), (5, _)] (.cons rfl (.cons rfl .nil)) ?_
  refine W.ret ?_
  refine WX.ret2 rfl rfl rfl ?_
  exact ⟨B, cb, s, C, cc, l, rfl, hS, hl1, hl2, M.sel (by first | ((repeat (first | with_reducible exact Sel.refl | with_reducible exact Sel.nil | with_reducible exact Del.here | with_reducible apply Del.there | with_reducible apply Sel.cons | with_reducible apply Sel.drop)); done) | (repeat (first | exact Sel.refl | exact Sel.nil | exact Del.here | apply Del.there | apply Sel.cons | apply Sel.drop)))⟩
end Go.Proofs.Ytkdkdaljgoibaaa
