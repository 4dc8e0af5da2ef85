/-
  Walks: Up, Since, Calm, Hear, Tick (beat).
-/
import Derived.Test.YtmkhggfcgblefaaDoorBeatLaw
namespace Go.Proofs.YtmkhggfcgblefaaDoor
open Go Go.RowKit

/-- Where a view lies. -/
structure BvA where
  g : Nat
  As : Option Addr
  cs : Nat
  Ac : Option Addr
  cc : Nat
def bvCells (a : BvA) (s : Bv) : List Value := [.slice a.As s.sites.length a.cs, .int .i64 (s.me : Int), .int .i64 s.pat, .slice a.Ac s.since.length a.cc, .int .i64 s.calm]
def bvL (a : BvA) (s : Bv) : List Asr := [Asr.row a.g 50 (bvCells a s), Asr.lst intE a.As a.cs s.sites, Asr.lst intE a.Ac a.cc s.since]
theorem or_bit (n i : Nat) (h : n < 2 ^ i) (hi : i < 32) : bits .or .u32 (n : Int) ((2 ^ i : Nat) : Int) = ((n + 2 ^ i : Nat) : Int) := by
  have h1 : 2 ^ i < 4294967296 := Nat.lt_of_lt_of_le (Nat.pow_lt_pow_right (by decide) hi) (by decide)
  rw [orU32 _ _ (by omega) h1]
  congr 1
  rw [Nat.or_comm]
  have := (Nat.two_pow_add_eq_or_of_lt (i := i) h 1).symm
  rw [Nat.mul_one] at this
  rw [this, Nat.add_comm]
theorem shl_bit {i : Nat} (hi : i < 32) : IntKind.u32.wrap ((1 : Int) * 2 ^ ((i : Int)).toNat) = ((2 ^ i : Nat) : Int) := by
  have h1 : 2 ^ i < 4294967296 := Nat.lt_of_lt_of_le (Nat.pow_lt_pow_right (by decide) hi) (by decide)
  rw [Int.toNat_natCast, Int.one_mul]
  have e : ((2 : Int) ^ i) = ((2 ^ i : Nat) : Int) := by push_cast; rfl
  rw [e]
  generalize 2 ^ i = B at h1 ⊢
  exact wU32 (by omega)
theorem upB_take {s : Bv} {i : Nat} (h : i < s.since.length) : (upB s).take (i + 1) = (upB s).take i ++ [decide (el s.since i < s.pat)] := by
  unfold upB
  rw [← List.map_take, ← List.map_take, List.take_succ_eq_append_getElem h, List.map_append]
  simp [el, h]
theorem Up_ok (a : BvA) (s : Bv) (hl : s.since.length ≤ 12) (w0 w : World) (L : List Asr) (M : Mem w0 w (bvL a s ++ L)) : Fn Tryd.prog 19 [.pointer (some ⟨a.g, 0, none⟩)] w fun v w' => v = .int .u32 (upN s : Int) ∧ Mem w0 w' (bvL a s ++ L) := by
  obtain ⟨g, As, cs, Ac, cc⟩ := a
  obtain ⟨sites, me, pat, since, calm⟩ := s
  unfold bvL bvCells at M
  dsimp only [List.cons_append, List.nil_append] at M hl ⊢
  obtain ⟨S, hS⟩ : ∃ S : Bv, S = ⟨sites, me, pat, since, calm⟩ := ⟨_, rfl⟩
  rw [← hS]
  have hSs : S.since = since := by rw [hS]
  have hSp : S.pat = pat := by rw [hS]
  refine Fn.enter Tryd.func19 rfl Tryd.ntmps19 rfl ?_
  refine W.sub [(0, _)] (.cons rfl .nil) ?_
  refine W.seq ?_
  refine W.region ?_
  refine WL.assign rfl rfl ?_
  refine WL.nil ?_
  refine WX.next ?_
  refine W.sub [(0, _)] (.cons rfl .nil) ?_
  refine W.seq ?_
  refine W.seq ?_
  refine W.region ?_
  refine WL.move rfl rfl ?_
  refine WL.eqNilF Tryd.underlying24 rfl rfl rfl ?_
  refine WL.nil ?_
  refine WX.next ?_
  refine W.sub [(0, _), (7, _)] (.cons rfl (.cons rfl .nil)) ?_
  refine W.condF rfl ?_
  refine W.skip ?_
  refine WX.next ?_
  refine W.seq ?_
  refine W.region ?_
  refine WL.assign rfl rfl ?_
  refine WL.nil ?_
  refine WX.next ?_
  refine W.sub [(0, _), (3, _)] (.cons rfl (.cons rfl .nil)) ?_
  refine W.seq ?_
  refine W.seq ?_
  refine W.region ?_
  refine WL.move rfl rfl ?_
  refine WL.nilCheck rfl rfl ?_
  refine WL.fieldR (off := 3) Tryd.underlying50 rfl rfl Tryd.sizeOf22 rfl rfl rfl ?_
  refine WL.loadR Tryd.isAgg22 rfl M (by first | ((repeat (first | with_reducible exact Has.here | with_reducible refine Has.there ?_)); done) | (repeat (first | exact Has.here | refine Has.there ?_))) rfl rfl ?_
  refine WL.len Tryd.underlying22 rfl rfl ?_
  refine WL.move rfl rfl ?_
  refine WL.nil ?_
  refine WX.next ?_
  refine W.sub [(0, _), (3, _), (11, _), (12, _), (13, _)] (.cons rfl (.cons rfl (.cons rfl (.cons rfl (.cons rfl .nil))))) ?_
  refine W.block ?_
  refine W.loop (ι := Nat) (fun i => [(0, .pointer (some ⟨g, 0, none⟩)), (3, .int .u32 (bitsN ((upB S).take i) : Int)), (11, .slice Ac since.length cc), (12, .int .i64 (since.length : Int)), (13, .int .i64 (i : Int))]) (fun zz w => Mem w0 w ((fun _ => Asr.row g 50 [.slice As sites.length cs, .int .i64 (me : Int), .int .i64 pat, .slice Ac since.length cc, .int .i64 calm] :: Asr.lst intE As cs sites :: Asr.lst intE Ac cc since :: L) zz) ∧ (fun i => i ≤ since.length) zz) (fun i => since.length - i) (0) (by (repeat' (first | exact envSub.nil | refine envSub.cons ?_ ?_)) <;> first | rfl | (refine congrArg some ?_; refine congrArg (Value.int _) ?_; first | omega | (dsimp only; omega)) | (simp; done) | (refine congrArg some ?_; dsimp only; congr 1; omega) | (simp; omega)) ⟨M.sel (by first | ((repeat (first | with_reducible exact Sel.refl | with_reducible exact Sel.nil | with_reducible exact Del.here | with_reducible apply Del.there | with_reducible apply Sel.cons | with_reducible apply Sel.drop)); done) | (repeat (first | exact Sel.refl | exact Sel.nil | exact Del.here | apply Del.there | apply Sel.cons | apply Sel.drop))), Nat.zero_le _⟩ ?_
  clear M; rintro (i) w ⟨M, hi⟩; dsimp only at M hi ⊢
  refine W.sub [(0, _), (3, _), (11, _), (12, _), (13, _)] (.cons rfl (.cons rfl (.cons rfl (.cons rfl (.cons rfl .nil))))) ?_
  refine W.seq ?_
  refine W.region ?_
  refine WL.lss rfl rfl rfl ?_
  refine WL.nil ?_
  refine WX.next ?_
  refine W.sub [(0, _), (3, _), (11, _), (12, _), (13, _), (14, _)] (.cons rfl (.cons rfl (.cons rfl (.cons rfl (.cons rfl (.cons rfl .nil)))))) ?_
  refine W.seq ?_
  refine W.ite rfl (fun c1 => ?_) (fun c1 => ?_)
  · have hil : i < since.length := by omega
    have hut := upB_take (s := S) (i := i) (by rw [hSs]; exact hil)
    rw [hSs, hSp] at hut
    have hbl : ((upB S).take i).length = i := by rw [List.length_take]; unfold upB; rw [List.length_map, hSs]; omega
    have hbn := bitsN_lt ((upB S).take i)
    rw [hbl] at hbn
    have hsn := bitsN_snoc ((upB S).take i) (decide (el since i < pat))
    rw [hbl, ← hut] at hsn
    refine W.skip ?_
    refine WX.next ?_
    refine W.seq ?_
    refine W.block ?_
    refine W.seq ?_
    refine W.region ?_
    refine WL.move rfl rfl ?_
    refine WL.idxA Tryd.underlying22 Tryd.sizeOf3 rfl rfl (RdL.isSome (E := intE) (by first | with_reducible assumption | with_reducible exact RdL.mem (by with_reducible assumption) M | exact M.rdL (by first | ((repeat (first | with_reducible exact Has.here | with_reducible refine Has.there ?_)); done) | (repeat (first | exact Has.here | refine Has.there ?_))) | exact RdLH.at (by assumption) (M.sel (by first | ((repeat (first | with_reducible exact Sel.refl | with_reducible exact Sel.nil | with_reducible exact Del.here | with_reducible apply Del.there | with_reducible apply Sel.cons | with_reducible apply Sel.drop)); done) | (repeat (first | exact Sel.refl | exact Sel.nil | exact Del.here | apply Del.there | apply Sel.cons | apply Sel.drop)))) | exact RdL.nil _ _ _) (by omega)) (by omega) (by omega) (by first | exact rfl | exact (Int.toNat_of_nonneg (by omega)).symm) rfl ?_
    refine WL.loadE0 (E := intE) Tryd.isAgg3 rfl (by first | with_reducible assumption | with_reducible exact RdL.mem (by with_reducible assumption) M | exact M.rdL (by first | ((repeat (first | with_reducible exact Has.here | with_reducible refine Has.there ?_)); done) | (repeat (first | exact Has.here | refine Has.there ?_))) | exact RdLH.at (by assumption) (M.sel (by first | ((repeat (first | with_reducible exact Sel.refl | with_reducible exact Sel.nil | with_reducible exact Del.here | with_reducible apply Del.there | with_reducible apply Sel.cons | with_reducible apply Sel.drop)); done) | (repeat (first | exact Sel.refl | exact Sel.nil | exact Del.here | apply Del.there | apply Sel.cons | apply Sel.drop)))) | exact RdL.nil _ _ _) (by omega) rfl rfl ?_
    refine WL.assign rfl rfl ?_
    refine WL.assign rfl rfl ?_
    refine WL.nil ?_
    refine WX.next ?_
    refine W.sub [(0, _), (3, _), (4, _), (5, _), (11, _), (12, _), (13, _)] (.cons rfl (.cons rfl (.cons rfl (.cons rfl (.cons rfl (.cons rfl (.cons rfl .nil))))))) ?_
    refine W.seq ?_
    refine W.region ?_
    refine WL.move rfl rfl ?_
    refine WL.move rfl rfl ?_
    refine WL.nilCheck rfl rfl ?_
    refine WL.fieldR (off := 2) Tryd.underlying50 rfl rfl Tryd.sizeOf3 rfl rfl rfl ?_
    refine WL.loadR Tryd.isAgg3 rfl M (by first | ((repeat (first | with_reducible exact Has.here | with_reducible refine Has.there ?_)); done) | (repeat (first | exact Has.here | refine Has.there ?_))) rfl rfl ?_
    refine WL.lss rfl rfl rfl ?_
    refine WL.nil ?_
    refine WX.next ?_
    refine W.sub [(0, _), (3, _), (4, _), (11, _), (12, _), (13, _), (23, _)] (.cons rfl (.cons rfl (.cons rfl (.cons rfl (.cons rfl (.cons rfl (.cons rfl .nil))))))) ?_
    refine W.ite rfl (fun c2 => ?_) (fun c2 => ?_)
    · refine W.region ?_
      refine WL.move rfl rfl ?_
      refine WL.move rfl rfl ?_
      refine WL.shl rfl rfl (by omega) (by show _ ≤ (32 : Int); omega) (shl_bit (i := i) (by omega)) rfl ?_
      refine WL.bor rfl rfl (or_bit _ i hbn (by omega)) rfl ?_
      refine WL.assign rfl rfl ?_
      refine WL.nil ?_
      refine WX.blockNormal ?_
      refine WX.next ?_
      refine W.sub [(0, _), (3, _), (11, _), (12, _), (13, _)] (.cons rfl (.cons rfl (.cons rfl (.cons rfl (.cons rfl .nil))))) ?_
      refine W.region ?_
      refine WL.add rfl rfl (by first | exact wI64 (by omega) | rfl) rfl ?_
      refine WL.move rfl rfl ?_
      refine WL.nil ?_
      rw [decide_eq_true c2, if_pos rfl] at hsn
      refine WX.round (i + 1) (.cons rfl (.cons (by rw [hsn]; rfl) (.cons rfl (.cons rfl (.cons (by refine congrArg some (congrArg (Value.int _) ?_); omega) .nil))))) ⟨M.sel (by first | ((repeat (first | with_reducible exact Sel.refl | with_reducible exact Sel.nil | with_reducible exact Del.here | with_reducible apply Del.there | with_reducible apply Sel.cons | with_reducible apply Sel.drop)); done) | (repeat (first | exact Sel.refl | exact Sel.nil | exact Del.here | apply Del.there | apply Sel.cons | apply Sel.drop))), (by omega)⟩ (by first | omega | (dsimp only; omega))
    · refine W.skip ?_
      refine WX.blockNormal ?_
      refine WX.next ?_
      refine W.region ?_
      refine WL.add rfl rfl (by first | exact wI64 (by omega) | rfl) rfl ?_
      refine WL.move rfl rfl ?_
      refine WL.nil ?_
      rw [decide_eq_false c2, if_neg (by decide), Nat.add_zero] at hsn
      refine WX.round (i + 1) (.cons rfl (.cons (by rw [hsn]; rfl) (.cons rfl (.cons rfl (.cons (by refine congrArg some (congrArg (Value.int _) ?_); omega) .nil))))) ⟨M.sel (by first | ((repeat (first | with_reducible exact Sel.refl | with_reducible exact Sel.nil | with_reducible exact Del.here | with_reducible apply Del.there | with_reducible apply Sel.cons | with_reducible apply Sel.drop)); done) | (repeat (first | exact Sel.refl | exact Sel.nil | exact Del.here | apply Del.there | apply Sel.cons | apply Sel.drop))), (by omega)⟩ (by first | omega | (dsimp only; omega))
  · refine W.exit ?_
    refine WX.thenExit ?_
    refine WX.thenExit ?_
    refine WX.blockHere ?_
    refine WX.next ?_
    refine W.seq ?_
    refine W.region ?_
    refine WL.move rfl rfl ?_
    refine WL.assign rfl rfl ?_
    refine WL.nil ?_
    refine WX.next ?_
    refine W.sub [(2, _)] (.cons rfl .nil) ?_
    refine W.ret ?_
    refine WX.ret1 rfl rfl ?_
    obtain rfl : i = since.length := by omega
    have e : (upB S).take since.length = upB S := List.take_of_length_le (by unfold upB; rw [List.length_map, hSs]; exact Nat.le_refl _)
    rw [e]
    exact ⟨rfl, by rw [hS]; exact M.sel (by first | ((repeat (first | with_reducible exact Sel.refl | with_reducible exact Sel.nil | with_reducible exact Del.here | with_reducible apply Del.there | with_reducible apply Sel.cons | with_reducible apply Sel.drop)); done) | (repeat (first | exact Sel.refl | exact Sel.nil | exact Del.here | apply Del.there | apply Sel.cons | apply Sel.drop)))⟩
theorem Calm_ok (a : BvA) (s : Bv) (w0 w : World) (L : List Asr) (M : Mem w0 w (bvL a s ++ L)) : Fn Tryd.prog 21 [.pointer (some ⟨a.g, 0, none⟩)] w fun v w' => v = .int .i64 s.calm ∧ w' = w := by
  obtain ⟨g, As, cs, Ac, cc⟩ := a
  obtain ⟨sites, me, pat, since, calm⟩ := s
  unfold bvL bvCells at M
  dsimp only [List.cons_append, List.nil_append] at M ⊢
  refine Fn.enter Tryd.func21 rfl Tryd.ntmps21 rfl ?_
  refine W.sub [(0, _)] (.cons rfl .nil) ?_
  refine W.seq ?_
  refine W.region ?_
  refine WL.assign rfl rfl ?_
  refine WL.nil ?_
  refine WX.next ?_
  refine W.sub [(0, _)] (.cons rfl .nil) ?_
  refine W.seq ?_
  refine W.seq ?_
  refine W.region ?_
  refine WL.move rfl rfl ?_
  refine WL.eqNilF Tryd.underlying24 rfl rfl rfl ?_
  refine WL.nil ?_
  refine WX.next ?_
  refine W.sub [(0, _), (4, _)] (.cons rfl (.cons rfl .nil)) ?_
  refine W.condF rfl ?_
  refine W.skip ?_
  refine WX.next ?_
  refine W.seq ?_
  refine W.region ?_
  refine WL.move rfl rfl ?_
  refine WL.nilCheck rfl rfl ?_
  refine WL.fieldR (off := 4) Tryd.underlying50 rfl rfl Tryd.sizeOf3 rfl rfl rfl ?_
  refine WL.loadR Tryd.isAgg3 rfl M (by first | ((repeat (first | with_reducible exact Has.here | with_reducible refine Has.there ?_)); done) | (repeat (first | exact Has.here | refine Has.there ?_))) rfl rfl ?_
  refine WL.assign rfl rfl ?_
  refine WL.nil ?_
  refine WX.next ?_
  refine W.sub [(2, _)] (.cons rfl .nil) ?_
  refine W.ret ?_
  refine WX.ret1 rfl rfl ?_
  exact ⟨rfl, rfl⟩
def sinceZ (s : Bv) (z : Int) : Int := if 0 ≤ z ∧ z < (s.sites.length : Int) then el s.since z.toNat else -1
theorem Since_ok (a : BvA) (s : Bv) (hl : s.since.length = s.sites.length) (z : Int) (w0 w : World) (L : List Asr) (M : Mem w0 w (bvL a s ++ L)) : Fn Tryd.prog 23 [.pointer (some ⟨a.g, 0, none⟩), .int .i64 z] w fun v w' => v = .int .i64 (sinceZ s z) ∧ w' = w := by
  obtain ⟨g, As, cs, Ac, cc⟩ := a
  obtain ⟨sites, me, pat, since, calm⟩ := s
  unfold bvL bvCells at M
  dsimp only [List.cons_append, List.nil_append] at M ⊢
  dsimp only at hl
  refine Fn.enter Tryd.func23 rfl Tryd.ntmps23 rfl ?_
  refine W.sub [(0, _), (1, _)] (.cons rfl (.cons rfl .nil)) ?_
  refine W.seq ?_
  refine W.region ?_
  refine WL.assign rfl rfl ?_
  refine WL.nil ?_
  refine WX.next ?_
  refine W.sub [(0, _), (1, _)] (.cons rfl (.cons rfl .nil)) ?_
  refine W.seq ?_
  refine W.seq ?_
  refine W.region ?_
  refine WL.move rfl rfl ?_
  refine WL.eqNilF Tryd.underlying24 rfl rfl rfl ?_
  refine WL.move rfl rfl ?_
  refine WL.on rfl rfl ?_
  refine WL.move rfl rfl ?_
  refine WL.on rfl rfl ?_
  refine WL.lss rfl rfl rfl ?_
  refine WL.pickF rfl rfl rfl ?_
  refine WL.moveIf rfl rfl (fun c1 => ?_) (fun c1 => ?_)
  · refine WL.off rfl rfl rfl rfl ?_
    refine WL.off rfl rfl rfl rfl ?_
    refine WL.off rfl rfl rfl rfl ?_
    refine WL.off rfl rfl rfl rfl ?_
    refine WL.off rfl rfl rfl rfl ?_
    refine WL.off rfl rfl rfl rfl ?_
    refine WL.off rfl rfl rfl rfl ?_
    refine WL.pickT rfl rfl rfl ?_
    refine WL.nil ?_
    refine WX.next ?_
    refine W.sub [(0, _), (1, _), (19, _)] (.cons rfl (.cons rfl (.cons rfl .nil))) ?_
    refine W.condT rfl ?_
    refine W.seq ?_
    refine W.region ?_
    refine WL.assign rfl rfl ?_
    refine WL.nil ?_
    refine WX.next ?_
    refine W.sub [(4, _)] (.cons rfl .nil) ?_
    refine W.ret ?_
    refine WX.thenRet ?_
    refine WX.ret1 rfl rfl ?_
    exact ⟨by unfold sinceZ; rw [if_neg (by dsimp only; omega)], rfl⟩
  · refine WL.on rfl rfl ?_
    refine WL.move rfl rfl ?_
    refine WL.on rfl rfl ?_
    refine WL.move rfl rfl ?_
    refine WL.on rfl rfl ?_
    refine WL.nilCheck rfl rfl ?_
    refine WL.on rfl rfl ?_
    refine WL.fieldR (off := 0) Tryd.underlying50 rfl rfl Tryd.sizeOf22 rfl rfl rfl ?_
    refine WL.on rfl rfl ?_
    refine WL.loadR Tryd.isAgg22 rfl M (by first | ((repeat (first | with_reducible exact Has.here | with_reducible refine Has.there ?_)); done) | (repeat (first | exact Has.here | refine Has.there ?_))) rfl rfl ?_
    refine WL.on rfl rfl ?_
    refine WL.len Tryd.underlying22 rfl rfl ?_
    refine WL.on rfl rfl ?_
    refine WL.geq rfl rfl rfl ?_
    refine WL.pickF rfl rfl rfl ?_
    refine WL.nil ?_
    refine WX.next ?_
    refine W.sub [(0, _), (1, _), (19, _)] (.cons rfl (.cons rfl (.cons rfl .nil))) ?_
    refine W.ite rfl (fun c2 => ?_) (fun c2 => ?_)
    · refine W.seq ?_
      refine W.region ?_
      refine WL.assign rfl rfl ?_
      refine WL.nil ?_
      refine WX.next ?_
      refine W.sub [(4, _)] (.cons rfl .nil) ?_
      refine W.ret ?_
      refine WX.thenRet ?_
      refine WX.ret1 rfl rfl ?_
      exact ⟨by unfold sinceZ; rw [if_neg (by dsimp only; omega)], rfl⟩
    · obtain ⟨k, hk⟩ : ∃ k : Nat, z = (k : Int) := ⟨z.toNat, by omega⟩
      subst hk
      refine W.skip ?_
      refine WX.next ?_
      refine W.seq ?_
      refine W.region ?_
      refine WL.move rfl rfl ?_
      refine WL.nilCheck rfl rfl ?_
      refine WL.fieldR (off := 3) Tryd.underlying50 rfl rfl Tryd.sizeOf22 rfl rfl rfl ?_
      refine WL.loadR Tryd.isAgg22 rfl M (by first | ((repeat (first | with_reducible exact Has.here | with_reducible refine Has.there ?_)); done) | (repeat (first | exact Has.here | refine Has.there ?_))) rfl rfl ?_
      refine WL.move rfl rfl ?_
      refine WL.idxA Tryd.underlying22 Tryd.sizeOf3 rfl rfl (RdL.isSome (E := intE) (by first | with_reducible assumption | with_reducible exact RdL.mem (by with_reducible assumption) M | exact M.rdL (by first | ((repeat (first | with_reducible exact Has.here | with_reducible refine Has.there ?_)); done) | (repeat (first | exact Has.here | refine Has.there ?_))) | exact RdLH.at (by assumption) (M.sel (by first | ((repeat (first | with_reducible exact Sel.refl | with_reducible exact Sel.nil | with_reducible exact Del.here | with_reducible apply Del.there | with_reducible apply Sel.cons | with_reducible apply Sel.drop)); done) | (repeat (first | exact Sel.refl | exact Sel.nil | exact Del.here | apply Del.there | apply Sel.cons | apply Sel.drop)))) | exact RdL.nil _ _ _) (by omega)) (by omega) (by omega) (by first | exact rfl | exact (Int.toNat_of_nonneg (by omega)).symm) rfl ?_
      refine WL.loadE0 (E := intE) Tryd.isAgg3 rfl (by first | with_reducible assumption | with_reducible exact RdL.mem (by with_reducible assumption) M | exact M.rdL (by first | ((repeat (first | with_reducible exact Has.here | with_reducible refine Has.there ?_)); done) | (repeat (first | exact Has.here | refine Has.there ?_))) | exact RdLH.at (by assumption) (M.sel (by first | ((repeat (first | with_reducible exact Sel.refl | with_reducible exact Sel.nil | with_reducible exact Del.here | with_reducible apply Del.there | with_reducible apply Sel.cons | with_reducible apply Sel.drop)); done) | (repeat (first | exact Sel.refl | exact Sel.nil | exact Del.here | apply Del.there | apply Sel.cons | apply Sel.drop)))) | exact RdL.nil _ _ _) (by omega) rfl rfl ?_
      refine WL.assign rfl rfl ?_
      refine WL.nil ?_
      refine WX.next ?_
      refine W.sub [(4, _)] (.cons rfl .nil) ?_
      refine W.ret ?_
      refine WX.ret1 rfl rfl ?_
      exact ⟨by unfold sinceZ; rw [if_pos (by dsimp only; omega), Int.toNat_natCast], rfl⟩
def hearZ (s : Bv) (z : Int) : Bv := if 0 ≤ z ∧ z < (s.sites.length : Int) then hearS s z.toNat else s
def hearE (s : Bv) (z : Int) : Int := if 0 ≤ z ∧ z < (s.sites.length : Int) then 0 else 2
theorem Hear_ok (a : BvA) (s : Bv) (hl : s.since.length = s.sites.length) (h12 : s.sites.length ≤ 12) (z : Int) (w0 w : World) (L : List Asr) (M : Mem w0 w (bvL a s ++ L)) :
    Fn Tryd.prog 15 [.pointer (some ⟨a.g, 0, none⟩), .int .i64 z] w fun v w' => v = .int .i64 (hearE s z) ∧ Mem w0 w' (bvL a (hearZ s z) ++ L) := by
  obtain ⟨g, As, cs, Ac, cc⟩ := a
  obtain ⟨sites, me, pat, since, calm⟩ := s
  dsimp only at hl h12 ⊢
  have M0 := M
  unfold bvL bvCells at M
  dsimp only [List.cons_append, List.nil_append] at M
  refine Fn.enter Tryd.func15 rfl Tryd.ntmps15 rfl ?_
  refine W.sub [(0, _), (1, _)] (.cons rfl (.cons rfl .nil)) ?_
  refine W.seq ?_
  refine W.region ?_
  refine WL.assign rfl rfl ?_
  refine WL.nil ?_
  refine WX.next ?_
  refine W.sub [(0, _), (1, _)] (.cons rfl (.cons rfl .nil)) ?_
  refine W.seq ?_
  refine W.block ?_
  refine W.seq ?_
  refine W.region ?_
  refine WL.move rfl rfl ?_
  refine WL.eqNilF Tryd.underlying24 rfl rfl rfl ?_
  refine WL.assign rfl rfl ?_
  refine WL.nil ?_
  refine WX.next ?_
  refine W.sub [(0, _), (1, _), (6, _)] (.cons rfl (.cons rfl (.cons rfl .nil))) ?_
  refine W.condF rfl ?_
  refine W.seq ?_
  refine W.region ?_
  refine WL.move rfl rfl ?_
  refine WL.lss rfl rfl rfl ?_
  refine WL.moveIf rfl rfl (fun c1 => ?_) (fun c1 => ?_)
  · refine WL.off rfl rfl rfl rfl ?_
    refine WL.off rfl rfl rfl rfl ?_
    refine WL.off rfl rfl rfl rfl ?_
    refine WL.off rfl rfl rfl rfl ?_
    refine WL.off rfl rfl rfl rfl ?_
    refine WL.off rfl rfl rfl rfl ?_
    refine WL.off rfl rfl rfl rfl ?_
    refine WL.pickT rfl rfl rfl ?_
    refine WL.assign rfl rfl ?_
    refine WL.nil ?_
    refine WX.next ?_
    refine W.sub [(0, _), (1, _), (9, _)] (.cons rfl (.cons rfl (.cons rfl .nil))) ?_
    refine W.condT rfl ?_
    refine W.seq ?_
    refine W.region ?_
    refine WL.assign rfl rfl ?_
    refine WL.nil ?_
    refine WX.next ?_
    refine W.sub [(4, _)] (.cons rfl .nil) ?_
    refine W.ret ?_
    refine WX.blockRet ?_
    refine WX.thenRet ?_
    refine WX.ret1 rfl rfl ?_
    exact ⟨by unfold hearE; rw [if_neg (by dsimp only; omega)], by unfold hearZ; rw [if_neg (by dsimp only; omega)]; exact M⟩
  · refine WL.on rfl rfl ?_
    refine WL.move rfl rfl ?_
    refine WL.on rfl rfl ?_
    refine WL.move rfl rfl ?_
    refine WL.on rfl rfl ?_
    refine WL.nilCheck rfl rfl ?_
    refine WL.on rfl rfl ?_
    refine WL.fieldR (off := 0) Tryd.underlying50 rfl rfl Tryd.sizeOf22 rfl rfl rfl ?_
    refine WL.on rfl rfl ?_
    refine WL.loadR Tryd.isAgg22 rfl M (by first | ((repeat (first | with_reducible exact Has.here | with_reducible refine Has.there ?_)); done) | (repeat (first | exact Has.here | refine Has.there ?_))) rfl rfl ?_
    refine WL.on rfl rfl ?_
    refine WL.len Tryd.underlying22 rfl rfl ?_
    refine WL.on rfl rfl ?_
    refine WL.geq rfl rfl rfl ?_
    refine WL.pickF rfl rfl rfl ?_
    refine WL.assign rfl rfl ?_
    refine WL.nil ?_
    refine WX.next ?_
    refine W.sub [(0, _), (1, _), (9, _)] (.cons rfl (.cons rfl (.cons rfl .nil))) ?_
    refine W.ite rfl (fun c2 => ?_) (fun c2 => ?_)
    · refine W.seq ?_
      refine W.region ?_
      refine WL.assign rfl rfl ?_
      refine WL.nil ?_
      refine WX.next ?_
      refine W.sub [(4, _)] (.cons rfl .nil) ?_
      refine W.ret ?_
      refine WX.blockRet ?_
      refine WX.thenRet ?_
      refine WX.ret1 rfl rfl ?_
      exact ⟨by unfold hearE; rw [if_neg (by dsimp only; omega)], by unfold hearZ; rw [if_neg (by dsimp only; omega)]; exact M⟩
    · obtain ⟨k, hk⟩ : ∃ k : Nat, z = (k : Int) := ⟨z.toNat, by omega⟩
      subst hk
      have hE : hearE ⟨sites, me, pat, since, calm⟩ (k : Int) = 0 := by unfold hearE; rw [if_pos (by dsimp only; omega)]
      have hZ : hearZ ⟨sites, me, pat, since, calm⟩ (k : Int) = hearS ⟨sites, me, pat, since, calm⟩ k := by unfold hearZ; rw [if_pos (by dsimp only; omega), Int.toNat_natCast]
      rw [hE, hZ]
      refine W.skip ?_
      refine WX.blockNormal ?_
      refine WX.next ?_
      refine W.seq ?_
      refine W.region ?_
      refine WL.move rfl rfl ?_
      refine WL.call Tryd.call19 rfl (Up_ok ⟨g, As, cs, Ac, cc⟩ ⟨sites, me, pat, since, calm⟩ (by dsimp only; omega) w0 w L M) rfl ?_
      rintro _ w ⟨rfl, M⟩
      unfold bvL bvCells at M
      dsimp only [List.cons_append, List.nil_append] at M
      refine WL.assign rfl rfl ?_
      refine WL.nil ?_
      refine WX.next ?_
      refine W.sub [(0, _), (1, _), (5, _)] (.cons rfl (.cons rfl (.cons rfl .nil))) ?_
      refine W.seq ?_
      refine W.region ?_
      refine WL.move rfl rfl ?_
      refine WL.nilCheck rfl rfl ?_
      refine WL.fieldR (off := 3) Tryd.underlying50 rfl rfl Tryd.sizeOf22 rfl rfl rfl ?_
      refine WL.loadR Tryd.isAgg22 rfl M (by first | ((repeat (first | with_reducible exact Has.here | with_reducible refine Has.there ?_)); done) | (repeat (first | exact Has.here | refine Has.there ?_))) rfl rfl ?_
      refine WL.move rfl rfl ?_
      refine WL.idxA Tryd.underlying22 Tryd.sizeOf3 rfl rfl (RdL.isSome (E := intE) (by first | with_reducible assumption | with_reducible exact RdL.mem (by with_reducible assumption) M | exact M.rdL (by first | ((repeat (first | with_reducible exact Has.here | with_reducible refine Has.there ?_)); done) | (repeat (first | exact Has.here | refine Has.there ?_))) | exact RdLH.at (by assumption) (M.sel (by first | ((repeat (first | with_reducible exact Sel.refl | with_reducible exact Sel.nil | with_reducible exact Del.here | with_reducible apply Del.there | with_reducible apply Sel.cons | with_reducible apply Sel.drop)); done) | (repeat (first | exact Sel.refl | exact Sel.nil | exact Del.here | apply Del.there | apply Sel.cons | apply Sel.drop)))) | exact RdL.nil _ _ _) (by omega)) (by omega) (by omega) (by first | exact rfl | exact (Int.toNat_of_nonneg (by omega)).symm) rfl ?_
      refine WL.storeE0 (E := intE) (x' := 0) Tryd.sizeOf3 rfl rfl rfl M (by first | ((repeat (first | with_reducible exact Has.here | with_reducible refine Has.there ?_)); done) | (repeat (first | exact Has.here | refine Has.there ?_))) (by omega) (by repeat (first | exact SetAt.zero | apply SetAt.succ)) (by first | ((repeat (first | with_reducible exact Upd.here | with_reducible apply Upd.there)); done) | (repeat (first | exact Upd.here | apply Upd.there))) ?_
      intro w M
      refine WL.nil ?_
      refine WX.next ?_
      refine W.sub [(0, _), (5, _)] (.cons rfl (.cons rfl .nil)) ?_
      refine W.seq ?_
      refine W.seq ?_
      refine W.region ?_
      refine WL.move rfl rfl ?_
      refine WL.call Tryd.call19 rfl (Up_ok ⟨g, As, cs, Ac, cc⟩ ⟨sites, me, pat, since.set k 0, calm⟩ (by rw [List.length_set]; omega) w0 w L (by unfold bvL bvCells; dsimp only [List.cons_append, List.nil_append]; rw [List.length_set]; exact M.sel (by first | ((repeat (first | with_reducible exact Sel.refl | with_reducible exact Sel.nil | with_reducible exact Del.here | with_reducible apply Del.there | with_reducible apply Sel.cons | with_reducible apply Sel.drop)); done) | (repeat (first | exact Sel.refl | exact Sel.nil | exact Del.here | apply Del.there | apply Sel.cons | apply Sel.drop))))) rfl ?_
      rintro _ w ⟨rfl, M⟩
      unfold bvL bvCells at M
      dsimp only [List.cons_append, List.nil_append] at M
      have hh : hearS ⟨sites, me, pat, since, calm⟩ k = if upN ⟨sites, me, pat, since.set k 0, calm⟩ ≠ upN ⟨sites, me, pat, since, calm⟩ then ⟨sites, me, pat, since.set k 0, 0⟩ else ⟨sites, me, pat, since.set k 0, calm⟩ := rfl
      rw [hh]
      refine WL.move rfl rfl ?_
      refine WL.neI rfl rfl rfl ?_
      refine WL.nil ?_
      refine WX.next ?_
      refine W.sub [(0, _), (32, _)] (.cons rfl (.cons rfl .nil)) ?_
      refine W.ite rfl (fun c3 => ?_) (fun c3 => ?_)
      · refine W.region ?_
        refine WL.move rfl rfl ?_
        refine WL.nilCheck rfl rfl ?_
        refine WL.fieldR (off := 4) Tryd.underlying50 rfl rfl Tryd.sizeOf3 rfl rfl rfl ?_
        refine WL.storeR Tryd.sizeOf3 rfl rfl rfl M (by first | ((repeat (first | with_reducible exact Has.here | with_reducible refine Has.there ?_)); done) | (repeat (first | exact Has.here | refine Has.there ?_))) (by repeat (first | exact SetAt.zero | apply SetAt.succ)) (by first | ((repeat (first | with_reducible exact Upd.here | with_reducible apply Upd.there)); done) | (repeat (first | exact Upd.here | apply Upd.there))) ?_
        intro w M
        refine WL.nil ?_
        refine WX.next ?_
        refine W.sub [] .nil ?_
        refine W.seq ?_
        refine W.region ?_
        refine WL.assign rfl rfl ?_
        refine WL.nil ?_
        refine WX.next ?_
        refine W.sub [(4, _)] (.cons rfl .nil) ?_
        refine W.ret ?_
        refine WX.ret1 rfl rfl ?_
        exact ⟨rfl, by rw [if_pos (fun e => c3 (by rw [e]))]; exact M.sel (by first | ((repeat (first | with_reducible exact Sel.refl | with_reducible exact Sel.nil | with_reducible exact Del.here | with_reducible apply Del.there | with_reducible apply Sel.cons | with_reducible apply Sel.drop)); done) | (repeat (first | exact Sel.refl | exact Sel.nil | exact Del.here | apply Del.there | apply Sel.cons | apply Sel.drop)))⟩
      · refine W.skip ?_
        refine WX.next ?_
        refine W.seq ?_
        refine W.region ?_
        refine WL.assign rfl rfl ?_
        refine WL.nil ?_
        refine WX.next ?_
        refine W.sub [(4, _)] (.cons rfl .nil) ?_
        refine W.ret ?_
        refine WX.ret1 rfl rfl ?_
        exact ⟨rfl, by rw [if_neg (fun e => e (by omega))]; exact M.sel (by first | ((repeat (first | with_reducible exact Sel.refl | with_reducible exact Sel.nil | with_reducible exact Del.here | with_reducible apply Del.there | with_reducible apply Sel.cons | with_reducible apply Sel.drop)); done) | (repeat (first | exact Sel.refl | exact Sel.nil | exact Del.here | apply Del.there | apply Sel.cons | apply Sel.drop)))⟩
theorem Tick_ok (a : BvA) (s : Bv) (hl : s.since.length = s.sites.length) (h12 : s.sites.length ≤ 12) (hm : s.me < s.since.length) (hb : ∀ j, j < s.since.length → 0 ≤ el s.since j ∧ el s.since j ≤ s.pat) (hp : s.pat ≤ 1000) (hc : 0 ≤ s.calm ∧ s.calm ≤ 1000) (w0 w : World) (L : List Asr) (M : Mem w0 w (bvL a s ++ L)) :
    Fn Tryd.prog 13 [.pointer (some ⟨a.g, 0, none⟩)] w fun _ w' => Mem w0 w' (bvL a (tickS s) ++ L) := by
  obtain ⟨g, As, cs, Ac, cc⟩ := a
  obtain ⟨sites, me, pat, since, calm⟩ := s
  dsimp only at hl h12 hm hb hp hc ⊢
  obtain ⟨S, hS⟩ : ∃ S : Bv, S = ⟨sites, me, pat, since, calm⟩ := ⟨_, rfl⟩
  have hol : (oldS S).length = since.length := by rw [oldS_length, hS]
  have hoe : ∀ i, i < since.length → el (oldS S) i = if i = me then el since i else min (el since i + 1) pat := by
    intro i hi
    rw [oldS_el (by rw [hS]; exact hi), hS]
  unfold bvL bvCells at M
  dsimp only [List.cons_append, List.nil_append] at M
  refine Fn.enter Tryd.func13 rfl Tryd.ntmps13 rfl ?_
  refine W.sub [(0, _)] (.cons rfl .nil) ?_
  refine W.seq ?_
  refine W.seq ?_
  refine W.region ?_
  refine WL.move rfl rfl ?_
  refine WL.eqNilF Tryd.underlying24 rfl rfl rfl ?_
  refine WL.nil ?_
  refine WX.next ?_
  refine W.sub [(0, _), (5, _)] (.cons rfl (.cons rfl .nil)) ?_
  refine W.condF rfl ?_
  refine W.skip ?_
  refine WX.next ?_
  refine W.seq ?_
  refine W.region ?_
  refine WL.move rfl rfl ?_
  refine WL.call Tryd.call19 rfl (Up_ok ⟨g, As, cs, Ac, cc⟩ ⟨sites, me, pat, since, calm⟩ (by dsimp only; omega) w0 w L M) rfl ?_
  rintro _ w ⟨rfl, M⟩
  unfold bvL bvCells at M
  dsimp only [List.cons_append, List.nil_append] at M
  rw [← hS]
  refine WL.assign rfl rfl ?_
  refine WL.nil ?_
  refine WX.next ?_
  refine W.sub [(0, _), (2, _)] (.cons rfl (.cons rfl .nil)) ?_
  refine W.seq ?_
  refine W.seq ?_
  refine W.region ?_
  refine WL.move rfl rfl ?_
  refine WL.nilCheck rfl rfl ?_
  refine WL.fieldR (off := 3) Tryd.underlying50 rfl rfl Tryd.sizeOf22 rfl rfl rfl ?_
  refine WL.loadR Tryd.isAgg22 rfl M (by first | ((repeat (first | with_reducible exact Has.here | with_reducible refine Has.there ?_)); done) | (repeat (first | exact Has.here | refine Has.there ?_))) rfl rfl ?_
  refine WL.len Tryd.underlying22 rfl rfl ?_
  refine WL.move rfl rfl ?_
  refine WL.nil ?_
  refine WX.next ?_
  refine W.sub [(0, _), (2, _), (12, _), (13, _)] (.cons rfl (.cons rfl (.cons rfl (.cons rfl .nil)))) ?_
  refine W.block ?_
  refine W.loop (ι := Nat × List Int) (fun z => [(0, .pointer (some ⟨g, 0, none⟩)), (2, .int .u32 (upN S : Int)), (12, .int .i64 (since.length : Int)), (13, .int .i64 (z.1 : Int))]) (fun zz w => Mem w0 w ((fun z => Asr.row g 50 [.slice As sites.length cs, .int .i64 (me : Int), .int .i64 pat, .slice Ac z.2.length cc, .int .i64 calm] :: Asr.lst intE As cs sites :: Asr.lst intE Ac cc z.2 :: L) zz) ∧ (fun z => z.1 ≤ since.length ∧ z.2.length = since.length ∧ ∀ j, j < since.length → el z.2 j = if j < z.1 then el (oldS S) j else el since j) zz) (fun z => since.length - z.1) ((0, since)) (by (repeat' (first | exact envSub.nil | refine envSub.cons ?_ ?_)) <;> first | rfl | (refine congrArg some ?_; refine congrArg (Value.int _) ?_; first | omega | (dsimp only; omega)) | (simp; done) | (refine congrArg some ?_; dsimp only; congr 1; omega) | (simp; omega)) ⟨M.sel (by first | ((repeat (first | with_reducible exact Sel.refl | with_reducible exact Sel.nil | with_reducible exact Del.here | with_reducible apply Del.there | with_reducible apply Sel.cons | with_reducible apply Sel.drop)); done) | (repeat (first | exact Sel.refl | exact Sel.nil | exact Del.here | apply Del.there | apply Sel.cons | apply Sel.drop))), ⟨Nat.zero_le _, rfl, fun j hj => by rw [if_neg (Nat.not_lt_zero _)]⟩⟩ ?_
  clear M; rintro (⟨i, c⟩) w ⟨M, ⟨hi, hcl, hce⟩⟩; dsimp only at M hi hcl hce ⊢
  refine W.sub [(0, _), (2, _), (12, _), (13, _)] (.cons rfl (.cons rfl (.cons rfl (.cons rfl .nil)))) ?_
  refine W.seq ?_
  refine W.region ?_
  refine WL.lss rfl rfl rfl ?_
  refine WL.nil ?_
  refine WX.next ?_
  refine W.sub [(0, _), (2, _), (12, _), (13, _), (14, _)] (.cons rfl (.cons rfl (.cons rfl (.cons rfl (.cons rfl .nil))))) ?_
  refine W.seq ?_
  refine W.ite rfl (fun c1 => ?_) (fun c1 => ?_)
  · have hil : i < since.length := by omega
    have hbi := hb i hil
    have hci := hce i hil
    rw [if_neg (by omega)] at hci
    have hoi := hoe i hil
    refine W.skip ?_
    refine WX.next ?_
    refine W.seq ?_
    refine W.block ?_
    refine W.seq ?_
    refine W.region ?_
    refine WL.move rfl rfl ?_
    refine WL.assign rfl rfl ?_
    refine WL.nil ?_
    refine WX.next ?_
    refine W.sub [(0, _), (2, _), (3, _), (12, _), (13, _)] (.cons rfl (.cons rfl (.cons rfl (.cons rfl (.cons rfl .nil))))) ?_
    refine W.seq ?_
    refine W.region ?_
    refine WL.move rfl rfl ?_
    refine WL.move rfl rfl ?_
    refine WL.nilCheck rfl rfl ?_
    refine WL.fieldR (off := 1) Tryd.underlying50 rfl rfl Tryd.sizeOf3 rfl rfl rfl ?_
    refine WL.loadR Tryd.isAgg3 rfl M (by first | ((repeat (first | with_reducible exact Has.here | with_reducible refine Has.there ?_)); done) | (repeat (first | exact Has.here | refine Has.there ?_))) rfl rfl ?_
    refine WL.neI rfl rfl rfl ?_
    refine WL.nil ?_
    refine WX.next ?_
    refine W.sub [(0, _), (2, _), (3, _), (12, _), (13, _), (21, _)] (.cons rfl (.cons rfl (.cons rfl (.cons rfl (.cons rfl (.cons rfl .nil)))))) ?_
    refine W.ite rfl (fun c2 => ?_) (fun c2 => ?_)
    · refine W.drawM (Asr.row g 50 [.slice As sites.length cs, .int .i64 (me : Int), .int .i64 pat, .slice Ac c.length cc, .int .i64 calm] :: Asr.lst intE As cs sites :: Asr.lst intE Ac cc c :: L) (by kernel_rfl) (fun j => [3, 8, 10, 11, 12, 16, 17].contains j) M (by first | ((repeat (first | with_reducible exact Sel.refl | with_reducible exact Sel.nil | with_reducible exact Del.here | with_reducible apply Del.there | with_reducible apply Sel.cons | with_reducible apply Sel.drop)); done) | (repeat (first | exact Sel.refl | exact Sel.nil | exact Del.here | apply Del.there | apply Sel.cons | apply Sel.drop))) ?_
      clear M; intro M
      apply DG.pure_ [0, 1, 2, 4, 5, 6, 7, 9, 13, 14, 15] 9 rfl (by kernel_rfl) (by kernel_rfl)
      · intro w
        refine WL.move rfl rfl ?_
        refine WL.nilCheck rfl rfl ?_
        refine WL.fieldR (off := 3) Tryd.underlying50 rfl rfl Tryd.sizeOf22 rfl rfl rfl ?_
        refine WL.move rfl rfl ?_
        refine WL.move rfl rfl ?_
        refine WL.nilCheck rfl rfl ?_
        refine WL.fieldR (off := 3) Tryd.underlying50 rfl rfl Tryd.sizeOf22 rfl rfl rfl ?_
        refine WL.move rfl rfl ?_
        refine WL.move rfl rfl ?_
        refine WL.nilCheck rfl rfl ?_
        refine WL.fieldR (off := 2) Tryd.underlying50 rfl rfl Tryd.sizeOf3 rfl rfl rfl ?_
        exact Chain.end_ rfl
      apply DG.take [3, 8, 10, 11, 12, 16, 17, 18] 1 rfl (by kernel_rfl) (by kernel_rfl) (M.sel (by first | ((repeat (first | with_reducible exact Sel.refl | with_reducible exact Sel.nil | with_reducible exact Del.here | with_reducible apply Del.there | with_reducible apply Sel.cons | with_reducible apply Sel.drop)); done) | (repeat (first | exact Sel.refl | exact Sel.nil | exact Del.here | apply Del.there | apply Sel.cons | apply Sel.drop))))
      · intro w M
        refine WL.loadR Tryd.isAgg22 rfl M (by first | ((repeat (first | with_reducible exact Has.here | with_reducible refine Has.there ?_)); done) | (repeat (first | exact Has.here | refine Has.there ?_))) rfl rfl ?_
        refine WL.loadR Tryd.isAgg22 rfl M (by first | ((repeat (first | with_reducible exact Has.here | with_reducible refine Has.there ?_)); done) | (repeat (first | exact Has.here | refine Has.there ?_))) rfl rfl ?_
        refine WL.idxA Tryd.underlying22 Tryd.sizeOf3 rfl rfl (RdL.isSome (E := intE) (by first | with_reducible assumption | with_reducible exact RdL.mem (by with_reducible assumption) M | exact M.rdL (by first | ((repeat (first | with_reducible exact Has.here | with_reducible refine Has.there ?_)); done) | (repeat (first | exact Has.here | refine Has.there ?_))) | exact RdLH.at (by assumption) (M.sel (by first | ((repeat (first | with_reducible exact Sel.refl | with_reducible exact Sel.nil | with_reducible exact Del.here | with_reducible apply Del.there | with_reducible apply Sel.cons | with_reducible apply Sel.drop)); done) | (repeat (first | exact Sel.refl | exact Sel.nil | exact Del.here | apply Del.there | apply Sel.cons | apply Sel.drop)))) | exact RdL.nil _ _ _) (by omega)) (by omega) (by omega) (by first | exact rfl | exact (Int.toNat_of_nonneg (by omega)).symm) rfl ?_
        refine WL.loadE0 (E := intE) Tryd.isAgg3 rfl (by first | with_reducible assumption | with_reducible exact RdL.mem (by with_reducible assumption) M | exact M.rdL (by first | ((repeat (first | with_reducible exact Has.here | with_reducible refine Has.there ?_)); done) | (repeat (first | exact Has.here | refine Has.there ?_))) | exact RdLH.at (by assumption) (M.sel (by first | ((repeat (first | with_reducible exact Sel.refl | with_reducible exact Sel.nil | with_reducible exact Del.here | with_reducible apply Del.there | with_reducible apply Sel.cons | with_reducible apply Sel.drop)); done) | (repeat (first | exact Sel.refl | exact Sel.nil | exact Del.here | apply Del.there | apply Sel.cons | apply Sel.drop)))) | exact RdL.nil _ _ _) (by omega) rfl rfl ?_
        refine WL.add rfl rfl (by first | exact wI64 (by omega) | rfl) rfl ?_
        refine WL.loadR Tryd.isAgg3 rfl M (by first | ((repeat (first | with_reducible exact Has.here | with_reducible refine Has.there ?_)); done) | (repeat (first | exact Has.here | refine Has.there ?_))) rfl rfl ?_
        refine WL.min rfl rfl rfl ?_
        refine WL.idxA Tryd.underlying22 Tryd.sizeOf3 rfl rfl (RdL.isSome (E := intE) (by first | with_reducible assumption | with_reducible exact RdL.mem (by with_reducible assumption) M | exact M.rdL (by first | ((repeat (first | with_reducible exact Has.here | with_reducible refine Has.there ?_)); done) | (repeat (first | exact Has.here | refine Has.there ?_))) | exact RdLH.at (by assumption) (M.sel (by first | ((repeat (first | with_reducible exact Sel.refl | with_reducible exact Sel.nil | with_reducible exact Del.here | with_reducible apply Del.there | with_reducible apply Sel.cons | with_reducible apply Sel.drop)); done) | (repeat (first | exact Sel.refl | exact Sel.nil | exact Del.here | apply Del.there | apply Sel.cons | apply Sel.drop)))) | exact RdL.nil _ _ _) (by omega)) (by omega) (by omega) (by first | exact rfl | exact (Int.toNat_of_nonneg (by omega)).symm) rfl ?_
        exact Chain.end_ rfl
      refine DG.step 19 0 rfl (by kernel_rfl) ?_
      refine WL.storeE0 (E := intE) (x' := min (el c i + 1) pat) Tryd.sizeOf3 rfl rfl rfl M (by first | ((repeat (first | with_reducible exact Has.here | with_reducible refine Has.there ?_)); done) | (repeat (first | exact Has.here | refine Has.there ?_))) (by omega) (by repeat (first | exact SetAt.zero | apply SetAt.succ)) (by first | ((repeat (first | with_reducible exact Upd.here | with_reducible apply Upd.there)); done) | (repeat (first | exact Upd.here | apply Upd.there))) ?_
      intro w M
      refine DG.go (G := fun j => [3, 8, 10, 11, 12, 16, 17].contains j) (i := 19) (f' := 0) (done := [0, 1, 2, 4, 5, 6, 7, 9, 13, 14, 15, 3, 8, 10, 11, 12, 16, 17, 18]) (fun h => by cases h) ?_
      refine DG.end_ (by kernel_rfl) ?_
      refine WX.blockNormal ?_
      refine WX.next ?_
      refine W.sub [(0, _), (2, _), (12, _), (13, _)] (.cons rfl (.cons rfl (.cons rfl (.cons rfl .nil)))) ?_
      refine W.region ?_
      refine WL.add rfl rfl (by first | exact wI64 (by omega) | rfl) rfl ?_
      refine WL.move rfl rfl ?_
      refine WL.nil ?_
      rw [if_neg (by omega)] at hoi
      have q : ∀ j, j < since.length → el (c.set i (min (el c i + 1) pat)) j = if j < i + 1 then el (oldS S) j else el since j := by
        intro j hj
        rw [el_set _ _ _ _ (by omega)]
        by_cases e : i = j
        · subst e
          rw [if_pos rfl, if_pos (by omega), hoi, hci]
        · rw [if_neg e, hce j hj]
          by_cases h2 : j < i
          · rw [if_pos h2, if_pos (by omega)]
          · rw [if_neg h2, if_neg (by omega)]
      refine WX.round ((i + 1, c.set i (min (el c i + 1) pat))) (by (repeat' (first | exact envSub.nil | refine envSub.cons ?_ ?_)) <;> first | rfl | (refine congrArg some ?_; refine congrArg (Value.int _) ?_; first | omega | (dsimp only; omega)) | (simp; done) | (refine congrArg some ?_; dsimp only; congr 1; omega) | (simp; omega)) ⟨(by dsimp only; rw [List.length_set]; exact M.sel (by first | ((repeat (first | with_reducible exact Sel.refl | with_reducible exact Sel.nil | with_reducible exact Del.here | with_reducible apply Del.there | with_reducible apply Sel.cons | with_reducible apply Sel.drop)); done) | (repeat (first | exact Sel.refl | exact Sel.nil | exact Del.here | apply Del.there | apply Sel.cons | apply Sel.drop)))), ⟨by dsimp only; omega, by rw [List.length_set]; exact hcl, q⟩⟩ (by first | omega | (dsimp only; omega))
    · refine W.skip ?_
      refine WX.blockNormal ?_
      refine WX.next ?_
      refine W.region ?_
      refine WL.add rfl rfl (by first | exact wI64 (by omega) | rfl) rfl ?_
      refine WL.move rfl rfl ?_
      refine WL.nil ?_
      rw [if_pos (by omega)] at hoi
      have q : ∀ j, j < since.length → el c j = if j < i + 1 then el (oldS S) j else el since j := by
        intro j hj
        rw [hce j hj]
        by_cases e : i = j
        · subst e
          rw [if_neg (by omega), if_pos (by omega), hoi]
        · by_cases h2 : j < i
          · rw [if_pos h2, if_pos (by omega)]
          · rw [if_neg h2, if_neg (by omega)]
      refine WX.round ((i + 1, c)) (by (repeat' (first | exact envSub.nil | refine envSub.cons ?_ ?_)) <;> first | rfl | (refine congrArg some ?_; refine congrArg (Value.int _) ?_; first | omega | (dsimp only; omega)) | (simp; done) | (refine congrArg some ?_; dsimp only; congr 1; omega) | (simp; omega)) ⟨M.sel (by first | ((repeat (first | with_reducible exact Sel.refl | with_reducible exact Sel.nil | with_reducible exact Del.here | with_reducible apply Del.there | with_reducible apply Sel.cons | with_reducible apply Sel.drop)); done) | (repeat (first | exact Sel.refl | exact Sel.nil | exact Del.here | apply Del.there | apply Sel.cons | apply Sel.drop))), ⟨by dsimp only; omega, hcl, q⟩⟩ (by first | omega | (dsimp only; omega))
  · refine W.exit ?_
    refine WX.thenExit ?_
    refine WX.thenExit ?_
    refine WX.blockHere ?_
    refine WX.next ?_
    refine W.seq ?_
    obtain rfl : i = since.length := by omega
    have hcO : c = oldS S := by
      apply List.ext_getElem (by rw [hcl, hol])
      intro j h1 h2
      have h3 := hce j (by omega)
      rw [if_pos (by omega)] at h3
      simpa [el, h1, h2] using h3
    subst hcO
    refine W.region ?_
    refine WL.move rfl rfl ?_
    refine WL.move rfl rfl ?_
    refine WL.nilCheck rfl rfl ?_
    refine WL.fieldR (off := 4) Tryd.underlying50 rfl rfl Tryd.sizeOf3 rfl rfl rfl ?_
    refine WL.loadR Tryd.isAgg3 rfl M (by first | ((repeat (first | with_reducible exact Has.here | with_reducible refine Has.there ?_)); done) | (repeat (first | exact Has.here | refine Has.there ?_))) rfl rfl ?_
    refine WL.add rfl rfl (by first | exact wI64 (by omega) | rfl) rfl ?_
    refine WL.min rfl rfl rfl ?_
    refine WL.nilCheck rfl rfl ?_
    refine WL.fieldR (off := 4) Tryd.underlying50 rfl rfl Tryd.sizeOf3 rfl rfl rfl ?_
    refine WL.storeR Tryd.sizeOf3 rfl rfl rfl M (by first | ((repeat (first | with_reducible exact Has.here | with_reducible refine Has.there ?_)); done) | (repeat (first | exact Has.here | refine Has.there ?_))) (by repeat (first | exact SetAt.zero | apply SetAt.succ)) (by first | ((repeat (first | with_reducible exact Upd.here | with_reducible apply Upd.there)); done) | (repeat (first | exact Upd.here | apply Upd.there))) ?_
    intro w M
    refine WL.nil ?_
    refine WX.next ?_
    refine W.sub [(0, _), (2, _)] (.cons rfl (.cons rfl .nil)) ?_
    refine W.seq ?_
    refine W.region ?_
    refine WL.move rfl rfl ?_
    refine WL.call Tryd.call19 rfl (Up_ok ⟨g, As, cs, Ac, cc⟩ ⟨sites, me, pat, oldS S, min (calm + 1) 1000⟩ (by dsimp only; omega) w0 w L M) rfl ?_
    rintro _ w ⟨rfl, M⟩
    unfold bvL bvCells at M
    dsimp only [List.cons_append, List.nil_append] at M
    have hu : upN ⟨sites, me, pat, oldS S, min (calm + 1) 1000⟩ = upN { S with since := oldS S } := by unfold upN upB; rw [hS]
    rw [hu]
    have ht : tickS S = if upN { S with since := oldS S } ≠ upN S then ⟨sites, me, pat, oldS S, 0⟩ else ⟨sites, me, pat, oldS S, min (calm + 1) 1000⟩ := by
      have e : tickS S = if upN { S with since := oldS S } ≠ upN S then { S with since := oldS S, calm := 0 } else { S with since := oldS S, calm := min (S.calm + 1) 1000 } := rfl
      rw [e]
      split <;> rw [hS]
    rw [ht]
    refine WL.move rfl rfl ?_
    refine WL.neI rfl rfl rfl ?_
    refine WL.nil ?_
    refine WX.next ?_
    refine W.sub [(0, _), (54, _)] (.cons rfl (.cons rfl .nil)) ?_
    refine W.ite rfl (fun c3 => ?_) (fun c3 => ?_)
    · refine W.region ?_
      refine WL.move rfl rfl ?_
      refine WL.nilCheck rfl rfl ?_
      refine WL.fieldR (off := 4) Tryd.underlying50 rfl rfl Tryd.sizeOf3 rfl rfl rfl ?_
      refine WL.storeR Tryd.sizeOf3 rfl rfl rfl M (by first | ((repeat (first | with_reducible exact Has.here | with_reducible refine Has.there ?_)); done) | (repeat (first | exact Has.here | refine Has.there ?_))) (by repeat (first | exact SetAt.zero | apply SetAt.succ)) (by first | ((repeat (first | with_reducible exact Upd.here | with_reducible apply Upd.there)); done) | (repeat (first | exact Upd.here | apply Upd.there))) ?_
      intro w M
      refine WL.nil ?_
      refine WX.end0 rfl ?_
      rw [if_pos (fun e => c3 (by rw [e]))]
      exact M.sel (by first | ((repeat (first | with_reducible exact Sel.refl | with_reducible exact Sel.nil | with_reducible exact Del.here | with_reducible apply Del.there | with_reducible apply Sel.cons | with_reducible apply Sel.drop)); done) | (repeat (first | exact Sel.refl | exact Sel.nil | exact Del.here | apply Del.there | apply Sel.cons | apply Sel.drop)))
    · refine W.skip ?_
      refine WX.end0 rfl ?_
      rw [if_neg (fun e => e (by omega))]
      exact M.sel (by first | ((repeat (first | with_reducible exact Sel.refl | with_reducible exact Sel.nil | with_reducible exact Del.here | with_reducible apply Del.there | with_reducible apply Sel.cons | with_reducible apply Sel.drop)); done) | (repeat (first | exact Sel.refl | exact Sel.nil | exact Del.here | apply Del.there | apply Sel.cons | apply Sel.drop)))
end Go.Proofs.YtmkhggfcgblefaaDoor
