/-
  Walk: TopHeal answers true.
-/
import Derived.Test.YtcmlehggfkjagaaFarm2
namespace Go.Proofs.Ytcmlehggfkjagaa
open Go Go.RowKit Bin

/-- What happens. -/
structure TnX where
  kind : Int
  node : Int
  lba : Nat
  fill : UInt8
instance : Inhabited TnX := ⟨⟨0, 0, 0, 0⟩⟩
def turnE : Enc TnX := ⟨43, 4, fun c => [.int .i64 c.kind, .int .i64 c.node, .int .u64 (c.lba : Int), .int .u8 (c.fill.toNat : Int)], fun _ => rfl, (fun a v hv => by
  simp only [List.mem_cons, List.not_mem_nil, or_false] at hv
  rcases hv with rfl | rfl | rfl | rfl <;> rfl), by decide⟩
structure TnX.inn (c : TnX) : Prop where
  node : -9223372036854775808 ≤ c.node ∧ c.node ≤ 9223372036854775807
  lba : c.lba < 18446744073709551616

theorem zero_of {P : Program} {t : TypeId} {z : Value} {size bytes : Nat} (h : (P.info? t).map (fun i => (i.zero, i.size, i.bytes)) = some (some z, size, bytes)) : ∀ w, (zeroValue t).run P w = .ok z w := by
  obtain ⟨i, hi, h1, h2, h3⟩ := info_parts h
  intro w
  simp [zeroValue, typeInfo, hi, h1]
theorem zeroFarm : ∀ w, (zeroValue 33).run Try.prog w = .ok (.agg (.int .u32 0 :: .slice none 0 0 :: bs (List.replicate 120 0)).toArray) w := zero_of (size := 122) (bytes := 152) (by kernel_rfl)
def P0 : List Pl := [⟨0, [0, 4]⟩, ⟨1, [1, 4]⟩, ⟨2, [2, 4]⟩, ⟨3, [3, 4]⟩]
theorem farm0 : Farm 31 P0 (List.replicate 120 0) (List.replicate 24 0) (List.replicate 4 false) := by
  refine ⟨by decide, by simp, by simp, by simp, rfl, fun c hc => ?_, fun c hc => ?_, fun c hc => ?_, fun c hc => ?_, fun b hb x hx => ?_⟩
  · match c, hc with
    | 0, _ | 1, _ | 2, _ | 3, _ => rfl
  · match c, hc with
    | 0, _ | 1, _ | 2, _ | 3, _ => decide
  · match c, hc with
    | 0, _ | 1, _ | 2, _ | 3, _ => decide
  · match c, hc with
    | 0, _ | 1, _ | 2, _ | 3, _ => simp [P0, el]
  · have h1 : ∀ (n i : Nat), el (List.replicate n (0 : UInt8)) i = 0 := fun n i => by
      unfold el
      rw [List.getElem?_replicate]
      split <;> rfl
    rw [h1, h1]
theorem el_getI {l : List Int} {j : Nat} (h : j < l.length) : el l j = l[j] := by simp [el, h]
theorem el_replF (n i : Nat) : el (List.replicate n (0 : UInt8)) i = 0 := by
  unfold el
  rw [List.getElem?_replicate]
  split <;> rfl
theorem bit_set (s k : Nat) (hs : s < 4294967296) (hk : k < 32) : bits .or .u32 (s : Int) (IntKind.u32.wrap (1 * 2 ^ ((k : Int)).toNat)) = ((s ||| 2 ^ k : Nat) : Int) := by
  have h2 : (2 : Nat) ^ k < 4294967296 := by
    have := Nat.pow_lt_pow_right (a := 2) (by omega) hk
    simpa using this
  have e : IntKind.u32.wrap (1 * 2 ^ ((k : Int)).toNat) = ((2 ^ k : Nat) : Int) := by
    rw [Int.toNat_natCast, Int.one_mul, mU32]
    have e2 : (2 : Int) ^ k = ((2 ^ k : Nat) : Int) := by push_cast; rfl
    rw [e2]
    exact Int.emod_eq_of_lt (Int.natCast_nonneg _) (Int.ofNat_lt.2 h2)
  rw [e]
  exact orU32 s (2 ^ k) hs h2
section
variable {w0 w : World} {L : List Asr} {g : Nat} {t : TypeId}
theorem Mem.boolAt (M : Mem w0 w L) {l : List Bool} (h : Has (Asr.row g t (l.map .bool)) L) {k : Nat} (hk : k < l.length) : w.cell? ⟨g, 0 + k * 1, none⟩ = some (.bool (el l k)) := by
  rw [M.cellH h, Nat.zero_add, Nat.mul_one]
  exact bool_get hk
theorem Mem.byteAt (M : Mem w0 w L) {l : List UInt8} (h : Has (Asr.row g t (bs l)) L) {k : Nat} (hk : k < l.length) : w.cell? ⟨g, 0 + k * 1, none⟩ = some (.int .u8 ((el l k).toNat : Int)) := by
  rw [M.cellH h, Nat.zero_add, Nat.mul_one]
  exact bs_el hk
theorem Mem.farmAt (M : Mem w0 w L) {a b : Value} {l : List UInt8} (h : Has (Asr.row g t (a :: b :: bs l)) L) {x c d : Nat} (hk : cAt x c d < l.length) : w.cell? ⟨g, 2 + x * 24 + c * 6 + d * 1, none⟩ = some (.int .u8 ((el l (cAt x c d)).toNat : Int)) := by
  rw [M.cellH h, show 2 + x * 24 + c * 6 + d * 1 = cAt x c d + 1 + 1 by unfold cAt; omega]
  exact bs_el hk
theorem farmSet {a b : Value} {v : UInt8} {l : List UInt8} {x c d : Nat} (hk : cAt x c d < l.length) : SetAt (.int .u8 (v.toNat : Int)) (a :: b :: bs l) (2 + x * 24 + c * 6 + d * 1) (a :: b :: bs (l.set (cAt x c d) v)) := by
  rw [show 2 + x * 24 + c * 6 + d * 1 = cAt x c d + 1 + 1 by unfold cAt; omega]
  exact .succ (.succ (SetAt.bs hk))
theorem SetAt.bs0 {v : UInt8} {l : List UInt8} {k : Nat} (h : k < l.length) : SetAt (.int .u8 (v.toNat : Int)) (Go.Proofs.Ytcmlehggfkjagaa.bs l) (0 + k * 1) (Go.Proofs.Ytcmlehggfkjagaa.bs (l.set k v)) := by
  rw [Nat.zero_add, Nat.mul_one]
  exact SetAt.bs h
theorem SetAt.bools0 {v : Bool} {l : List Bool} {k : Nat} (h : k < l.length) : SetAt (.bool v) (l.map .bool) (0 + k * 1) ((l.set k v).map .bool) := by
  rw [Nat.zero_add, Nat.mul_one]
  exact SetAt.bools h
end
set_option maxHeartbeats 8000000 in
set_option maxRecDepth 10000 in
theorem TopHeal_ok (As : Option Addr) (cs : Nat) (l : List TnX) (w0 : World) (hs : RdL w0 turnE As cs l) (hin : ∀ x ∈ l, x.inn) (hcs : cs ≤ maxLen) :
    Fn Try.prog 3 [.slice As l.length cs] w0 fun v w' => v = .bool true ∧ Mem w0 w' [] := by
  have M := Mem.refl w0
  obtain ⟨w, hw⟩ : ∃ w, w = w0 := ⟨w0, rfl⟩
  have hll : l.length ≤ maxLen := Nat.le_trans hs.le hcs
  unfold maxLen at hll
  refine Fn.enter Try.func3 rfl Try.ntmps3 rfl ?_
  refine W.sub [(0, _)] (.cons rfl .nil) ?_
  refine W.seq ?_
  refine W.region ?_
  refine WL.assign rfl rfl ?_
  refine WL.nil ?_
  refine WX.next ?_
  refine W.sub [(0, _)] (.cons rfl .nil) ?_
  refine W.seq ?_
  refine W.region ?_
  refine WL.buildP (places := #[(0, 1), (1, 1), (2, 1), (3, 1)]) Try.underlying25 Try.zeroValue25 (fun _ => by simp [Try.sizeOf23, Try.sizeOf3, Try.sizeOf3, Try.sizeOf3]) rfl (by repeat (first | exact Puts.nil | exact SetAt.zero | apply SetAt.succ | apply Puts.cons rfl rfl)) rfl ?_
  refine WL.alloc Try.zeroValue25 M rfl ?_
  intro g1_1 w M
  try simp only [Value.cells] at M
  try simp only [List.toList_toArray] at M
  refine WL.storeWA Try.sizeOf25 rfl rfl (by repeat (first | exact oneNil | refine oneCons rfl ?_)) rfl rfl M (by first | ((repeat (first | with_reducible exact Upd.here | with_reducible apply Upd.there)); done) | (repeat (first | exact Upd.here | apply Upd.there))) ?_
  intro w M
  refine WL.nil ?_
  refine WX.next ?_
  refine W.sub [(0, _), (3, _)] (.cons rfl (.cons rfl .nil)) ?_
  refine W.seq ?_
  refine W.region ?_
  refine WL.build (cells := (.int .u32 31 :: .slice none 0 0 :: bs (List.replicate 120 0)).toArray) (places := #[(0, 1), (1, 1), (2, 120)]) Try.underlying33 zeroFarm (fun _ => by simp [Try.sizeOf27, Try.sizeOf28, Try.sizeOf31]) rfl (by kernel_rfl) rfl ?_
  refine WL.box rfl M rfl ?_
  intro g2_1 w M
  try simp only [Value.cells] at M
  try simp only [List.toList_toArray] at M
  refine WL.assign rfl rfl ?_
  refine WL.nil ?_
  refine WX.next ?_
  refine W.sub [(0, _), (3, _), (4, _)] (.cons rfl (.cons rfl (.cons rfl .nil))) ?_
  refine W.seq ?_
  refine W.seq ?_
  refine W.region ?_
  refine WL.assign rfl rfl ?_
  refine WL.nil ?_
  refine WX.next ?_
  refine W.sub [(0, _), (3, _), (4, _), (5, _)] (.cons rfl (.cons rfl (.cons rfl (.cons rfl .nil)))) ?_
  refine W.block ?_
  refine W.loop (ι := Nat × (Option Addr × Nat × List PlX)) (fun z => [(0, .slice As l.length cs), (3, .pointer (some ⟨g1_1, 0, none⟩)), (4, .pointer (some ⟨g2_1, 0, none⟩)), (5, .int .i64 (z.1 : Int))]) (fun zz w => Mem w0 w ((fun z => [Asr.row g1_1 25 [.int .u64 24, .int .i64 6, .int .i64 2, .int .i64 3], Asr.row g2_1 33 (.int .u32 31 :: .slice z.2.1 z.2.2.2.length z.2.2.1 :: bs (List.replicate 120 0)), Asr.lst placeE z.2.1 z.2.2.1 z.2.2.2, Asr.star (z.2.2.2.map PlX.O)]) zz) ∧ (fun z => z.1 ≤ 4 ∧ z.2.2.2.map PlX.key = P0.take z.1 ∧ z.2.2.2.length = z.1) zz) (fun z => 4 - z.1) ((0, (none, 0, []))) (by (repeat' (first | exact envSub.nil | refine envSub.cons ?_ ?_)) <;> first | rfl | (refine congrArg some ?_; refine congrArg (Value.int _) ?_; first | omega | (dsimp only; omega)) | (simp; done) | (refine congrArg some ?_; dsimp only; congr 1; omega) | (simp; omega)) ⟨((Mem.nilOwn (Mem.starNil M) 36 2).sel (by first | ((repeat (first | with_reducible exact Sel.refl | with_reducible exact Sel.nil | with_reducible exact Del.here | with_reducible apply Del.there | with_reducible apply Sel.cons | with_reducible apply Sel.drop)); done) | (repeat (first | exact Sel.refl | exact Sel.nil | exact Del.here | apply Del.there | apply Sel.cons | apply Sel.drop)))), ⟨Nat.zero_le _, rfl, rfl⟩⟩ ?_
  clear M; rintro (⟨c, A, cap, ps⟩) w ⟨M, ⟨hc, hps, hpl⟩⟩; dsimp only at M hc hps hpl ⊢
  refine W.sub [(0, _), (3, _), (4, _), (5, _)] (.cons rfl (.cons rfl (.cons rfl (.cons rfl .nil)))) ?_
  refine W.seq ?_
  refine W.seq ?_
  refine W.region ?_
  refine WL.move rfl rfl ?_
  refine WL.lss rfl rfl rfl ?_
  refine WL.nil ?_
  refine WX.next ?_
  refine W.sub [(0, _), (3, _), (4, _), (5, _), (27, _)] (.cons rfl (.cons rfl (.cons rfl (.cons rfl (.cons rfl .nil))))) ?_
  refine W.ite rfl (fun c0 => ?_) (fun c0 => ?_)
  · refine W.skip ?_
    refine WX.next ?_
    refine W.seq ?_
    refine W.block ?_
    refine W.region ?_
    refine WL.move rfl rfl ?_
    refine WL.move rfl rfl ?_
    refine WL.nilCheck rfl rfl ?_
    refine WL.fieldR (off := 1) Try.underlying33 rfl rfl Try.sizeOf28 rfl rfl rfl ?_
    refine WL.loadR Try.isAgg28 rfl M (by first | ((repeat (first | with_reducible exact Has.here | with_reducible refine Has.there ?_)); done) | (repeat (first | exact Has.here | refine Has.there ?_))) rfl rfl ?_
    refine WL.move rfl rfl ?_
    refine WL.move rfl rfl ?_
    refine WL.buildL (E := intE) (l := [(c : Int), 4]) Try.elem3 M rfl rfl rfl rfl rfl rfl ?_
    intro g6_7 w M
    refine WL.buildP (places := #[(0, 1), (1, 1)]) Try.underlying36 Try.zeroValue36 (fun _ => by simp [Try.sizeOf3, Try.sizeOf34]) rfl (by repeat (first | exact Puts.nil | exact SetAt.zero | apply SetAt.succ | apply Puts.cons rfl rfl)) rfl ?_
    refine WL.buildL (E := placeE) (l := [(⟨(c : Int), some ⟨g6_7, 0, none⟩, 2, [(c : Int), 4]⟩ : PlX)]) Try.elem36 M rfl rfl rfl rfl rfl rfl ?_
    intro g6_9 w M
    refine WL.appendL (E := placeE) Try.elem36 rfl rfl M (by first | ((repeat (first | with_reducible exact Del.here | with_reducible apply Del.there)); done) | (repeat (first | exact Del.here | apply Del.there))) (by first | with_reducible assumption | with_reducible exact RdL.mem (by with_reducible assumption) M | exact M.rdL (by first | ((repeat (first | with_reducible exact Has.here | with_reducible refine Has.there ?_)); done) | (repeat (first | exact Has.here | refine Has.there ?_))) | exact RdLH.at (by assumption) (M.sel (by first | ((repeat (first | with_reducible exact Sel.refl | with_reducible exact Sel.nil | with_reducible exact Del.here | with_reducible apply Del.there | with_reducible apply Sel.cons | with_reducible apply Sel.drop)); done) | (repeat (first | exact Sel.refl | exact Sel.nil | exact Del.here | apply Del.there | apply Sel.cons | apply Sel.drop)))) | exact RdL.nil _ _ _) rfl rfl (by first | omega | (simp; done) | (simp; omega)) (by first | (simp only [maxLen]; omega) | (simp [maxLen]; done) | (simp [maxLen]; omega)) rfl ?_
    intro A6_10 cap6_10 w M
    refine WL.nilCheck rfl rfl ?_
    refine WL.fieldR (off := 1) Try.underlying33 rfl rfl Try.sizeOf28 rfl rfl rfl ?_
    refine WL.storeR Try.sizeOf28 rfl rfl rfl M (by first | ((repeat (first | with_reducible exact Has.here | with_reducible refine Has.there ?_)); done) | (repeat (first | exact Has.here | refine Has.there ?_))) (by repeat (first | exact SetAt.zero | apply SetAt.succ)) (by first | ((repeat (first | with_reducible exact Upd.here | with_reducible apply Upd.there)); done) | (repeat (first | exact Upd.here | apply Upd.there))) ?_
    intro w M
    refine WL.nil ?_
    refine WX.blockNormal ?_
    refine WX.next ?_
    refine W.sub [(0, _), (3, _), (4, _), (5, _)] (.cons rfl (.cons rfl (.cons rfl (.cons rfl .nil)))) ?_
    refine W.region ?_
    refine WL.move rfl rfl ?_
    refine WL.add rfl rfl (by first | exact wI64 (by omega) | rfl) rfl ?_
    refine WL.assign rfl rfl ?_
    refine WL.nil ?_
    skip
    have q : (ps ++ [(⟨(c : Int), some ⟨g6_7, 0, none⟩, 2, [(c : Int), 4]⟩ : PlX)]).map PlX.key = P0.take (c + 1) := by
      rw [List.map_append, hps]
      match c, (show c < 4 by omega) with
      | 0, _ | 1, _ | 2, _ | 3, _ => rfl
    have M2 : Mem w0 w (Asr.star ((ps ++ [(⟨(c : Int), some ⟨g6_7, 0, none⟩, 2, [(c : Int), 4]⟩ : PlX)]).map PlX.O) :: Asr.row g1_1 25 [.int .u64 24, .int .i64 6, .int .i64 2, .int .i64 3] :: Asr.row g2_1 33 (.int .u32 31 :: .slice A6_10 (ps ++ [(⟨(c : Int), some ⟨g6_7, 0, none⟩, 2, [(c : Int), 4]⟩ : PlX)]).length cap6_10 :: bs (List.replicate 120 0)) :: Asr.lst placeE A6_10 cap6_10 (ps ++ [(⟨(c : Int), some ⟨g6_7, 0, none⟩, 2, [(c : Int), 4]⟩ : PlX)]) :: []) := by
      rw [List.map_append]
      refine Mem.starSnoc ?_
      exact M.sel (by first | ((repeat (first | with_reducible exact Sel.refl | with_reducible exact Sel.nil | with_reducible exact Del.here | with_reducible apply Del.there | with_reducible apply Sel.cons | with_reducible apply Sel.drop)); done) | (repeat (first | exact Sel.refl | exact Sel.nil | exact Del.here | apply Del.there | apply Sel.cons | apply Sel.drop)))
    replace M := M2
    refine WX.round ((c + 1, (A6_10, cap6_10, ps ++ [(⟨(c : Int), some ⟨g6_7, 0, none⟩, 2, [(c : Int), 4]⟩ : PlX)]))) (by (repeat' (first | exact envSub.nil | refine envSub.cons ?_ ?_)) <;> first | rfl | (refine congrArg some ?_; refine congrArg (Value.int _) ?_; first | omega | (dsimp only; omega)) | (simp; done) | (refine congrArg some ?_; dsimp only; congr 1; omega) | (simp; omega)) ⟨M.sel (by first | ((repeat (first | with_reducible exact Sel.refl | with_reducible exact Sel.nil | with_reducible exact Del.here | with_reducible apply Del.there | with_reducible apply Sel.cons | with_reducible apply Sel.drop)); done) | (repeat (first | exact Sel.refl | exact Sel.nil | exact Del.here | apply Del.there | apply Sel.cons | apply Sel.drop))), ⟨by dsimp only; omega, q, by dsimp only; rw [List.length_append]; simp; omega⟩⟩ (by first | omega | (dsimp only; omega))
  · obtain rfl : c = 4 := by omega
    have hP : ps.map PlX.key = P0 := hps
    have hF0 : Farm 31 (ps.map PlX.key) (List.replicate 120 0) (List.replicate 24 0) (List.replicate 4 false) := by rw [hP]; exact farm0
    refine W.exit ?_
    refine WX.thenExit ?_
    refine WX.thenExit ?_
    refine WX.blockHere ?_
    refine WX.next ?_
    refine W.seq ?_
    refine W.seq ?_
    refine W.region ?_
    refine WL.loadW Try.isAgg25 Try.sizeOf25 rfl M (by first | ((repeat (first | with_reducible exact Has.here | with_reducible refine Has.there ?_)); done) | (repeat (first | exact Has.here | refine Has.there ?_))) rfl rfl ?_
    refine WL.call Try.call4 rfl (Chunks_ok _) rfl ?_
    rintro _ w ⟨rfl, m⟩
    replace M := M.call0 m; clear m
    refine WL.neI rfl rfl rfl ?_
    refine WL.moveIf rfl rfl (fun c1 => ?_) (fun c1 => ?_)
    · exact absurd rfl c1
    · refine WL.on rfl rfl ?_
      refine WL.buildL (E := intE) (l := [0, 0, 1, 1, 2]) Try.elem3 M rfl rfl rfl rfl rfl rfl ?_
      intro g7_4 w M
      refine WL.on rfl rfl ?_
      refine WL.move rfl rfl ?_
      refine WL.on rfl rfl ?_
      refine WL.nilCheck rfl rfl ?_
      refine WL.on rfl rfl ?_
      refine WL.fieldR (off := 1) Try.underlying33 rfl rfl Try.sizeOf28 rfl rfl rfl ?_
      refine WL.on rfl rfl ?_
      refine WL.loadR Try.isAgg28 rfl M (by first | ((repeat (first | with_reducible exact Has.here | with_reducible refine Has.there ?_)); done) | (repeat (first | exact Has.here | refine Has.there ?_))) rfl rfl ?_
      refine WL.on rfl rfl ?_
      refine WL.call Try.call5 rfl (Check_ok (sites := [0, 0, 1, 1, 2]) ⟨by simp, by simp, by intro x hx; simp at hx; omega⟩ hF0.formed (M.rdL (by first | ((repeat (first | with_reducible exact Has.here | with_reducible refine Has.there ?_)); done) | (repeat (first | exact Has.here | refine Has.there ?_)))) (M.rdP (by first | ((repeat (first | with_reducible exact Has.here | with_reducible refine Has.there ?_)); done) | (repeat (first | exact Has.here | refine Has.there ?_))) (by first | ((repeat (first | with_reducible exact Has.here | with_reducible refine Has.there ?_)); done) | (repeat (first | exact Has.here | refine Has.there ?_))))) rfl ?_
      rintro _ w ⟨rfl, m⟩
      replace M := M.call0 m; clear m
      refine WL.on rfl rfl ?_
      refine WL.neI rfl rfl rfl ?_
      refine WL.pickF rfl rfl rfl ?_
      refine WL.nil ?_
      refine WX.next ?_
      refine W.sub [(0, _), (3, _), (4, _), (54, _)] (.cons rfl (.cons rfl (.cons rfl (.cons rfl .nil)))) ?_
      refine W.ite rfl (fun c2 => ?_) (fun c2 => ?_)
      · exact absurd rfl c2
      · refine W.skip ?_
        refine WX.next ?_
        refine W.seq ?_
        refine W.region ?_
        refine WL.alloc Try.zeroValue40 M rfl ?_
        intro g9_0 w M
        try simp only [Value.cells] at M
        try simp only [List.toList_toArray] at M
        refine WL.nil ?_
        refine WX.next ?_
        refine W.sub [(0, _), (3, _), (4, _), (6, _)] (.cons rfl (.cons rfl (.cons rfl (.cons rfl .nil)))) ?_
        refine W.seq ?_
        refine W.region ?_
        refine WL.alloc Try.zeroValue41 M rfl ?_
        intro g10_0 w M
        try simp only [Value.cells] at M
        try simp only [List.toList_toArray] at M
        refine WL.nil ?_
        refine WX.next ?_
        refine W.sub [(0, _), (3, _), (4, _), (6, _), (7, _)] (.cons rfl (.cons rfl (.cons rfl (.cons rfl (.cons rfl .nil))))) ?_
        refine W.seq ?_
        refine W.seq ?_
        have Mw : Mem w0 w (Asr.row g9_0 40 (bs (List.replicate 24 0)) :: Asr.row g10_0 41 ((List.replicate 4 false).map .bool) :: Asr.row g1_1 25 [.int .u64 24, .int .i64 6, .int .i64 2, .int .i64 3] :: Asr.row g2_1 33 (.int .u32 31 :: .slice A ps.length cap :: bs (List.replicate 120 0)) :: Asr.lst placeE A cap ps :: Asr.star (ps.map PlX.O) :: []) := M.sel (by first | ((repeat (first | with_reducible exact Sel.refl | with_reducible exact Sel.nil | with_reducible exact Del.here | with_reducible apply Del.there | with_reducible apply Sel.cons | with_reducible apply Sel.drop)); done) | (repeat (first | exact Sel.refl | exact Sel.nil | exact Del.here | apply Del.there | apply Sel.cons | apply Sel.drop)))
        replace M := Mw
        refine W.region ?_
        refine WL.assign rfl rfl ?_
        refine WL.nil ?_
        refine WX.next ?_
        refine W.sub [(0, _), (3, _), (4, _), (6, _), (7, _), (8, _)] (.cons rfl (.cons rfl (.cons rfl (.cons rfl (.cons rfl (.cons rfl .nil)))))) ?_
        refine W.block ?_
        refine W.loop (ι := Nat × Nat × (Option Addr × Nat × List PlX) × List UInt8 × List UInt8 × List Bool) (fun z => [(0, .slice As l.length cs), (3, .pointer (some ⟨g1_1, 0, none⟩)), (4, .pointer (some ⟨g2_1, 0, none⟩)), (6, .pointer (some ⟨g9_0, 0, none⟩)), (7, .pointer (some ⟨g10_0, 0, none⟩)), (8, .int .i64 (z.1 : Int))]) (fun zz w => Mem w0 w ((fun z => [Asr.row g1_1 25 [.int .u64 24, .int .i64 6, .int .i64 2, .int .i64 3], Asr.row g2_1 33 (.int .u32 (z.2.1 : Int) :: .slice z.2.2.1.1 z.2.2.1.2.2.length z.2.2.1.2.1 :: bs z.2.2.2.1), Asr.lst placeE z.2.2.1.1 z.2.2.1.2.1 z.2.2.1.2.2, Asr.star (z.2.2.1.2.2.map PlX.O), Asr.row g9_0 40 (bs z.2.2.2.2.1), Asr.row g10_0 41 (z.2.2.2.2.2.map .bool)]) zz) ∧ (fun z => (z.1 ≤ l.length ∧ z.1 ≤ 200) ∧ Farm z.2.1 (z.2.2.1.2.2.map PlX.key) z.2.2.2.1 z.2.2.2.2.1 z.2.2.2.2.2) zz) (fun z => 200 - z.1) ((0, 31, (A, cap, ps), List.replicate 120 0, List.replicate 24 0, List.replicate 4 false)) (by (repeat' (first | exact envSub.nil | refine envSub.cons ?_ ?_)) <;> first | rfl | (refine congrArg some ?_; refine congrArg (Value.int _) ?_; first | omega | (dsimp only; omega)) | (simp; done) | (refine congrArg some ?_; dsimp only; congr 1; omega) | (simp; omega)) ⟨M.sel (by first | ((repeat (first | with_reducible exact Sel.refl | with_reducible exact Sel.nil | with_reducible exact Del.here | with_reducible apply Del.there | with_reducible apply Sel.cons | with_reducible apply Sel.drop)); done) | (repeat (first | exact Sel.refl | exact Sel.nil | exact Del.here | apply Del.there | apply Sel.cons | apply Sel.drop))), ⟨⟨Nat.zero_le _, Nat.zero_le _⟩, hF0⟩⟩ ?_
        clear M; rintro (⟨i, up, ⟨A, cap, ps⟩, cp, want, lost⟩) w ⟨M, ⟨⟨hi1, hi2⟩, F⟩⟩; dsimp only at M hi1 hi2 F ⊢
        refine W.sub [(0, _), (3, _), (4, _), (6, _), (7, _), (8, _)] (.cons rfl (.cons rfl (.cons rfl (.cons rfl (.cons rfl (.cons rfl .nil)))))) ?_
        refine W.seq ?_
        refine W.seq ?_
        refine W.region ?_
        refine WL.move rfl rfl ?_
        refine WL.move rfl rfl ?_
        refine WL.len Try.underlying22 rfl rfl ?_
        refine WL.lss rfl rfl rfl ?_
        refine WL.moveIf rfl rfl (fun c3 => ?_) (fun c3 => ?_)
        · refine WL.on rfl rfl ?_
          refine WL.move rfl rfl ?_
          refine WL.on rfl rfl ?_
          refine WL.lss rfl rfl rfl ?_
          refine WL.pickT rfl rfl rfl ?_
          refine WL.nil ?_
          refine WX.next ?_
          refine W.sub [(0, _), (3, _), (4, _), (6, _), (7, _), (8, _), (62, _)] (.cons rfl (.cons rfl (.cons rfl (.cons rfl (.cons rfl (.cons rfl (.cons rfl .nil))))))) ?_
          refine W.ite rfl (fun c4 => ?_) (fun c4 => ?_)
          · have hil : i < l.length := by omega
            have hx := hin _ (el_mem hil)
            have hxn := hx.node
            have hxl := hx.lba
            have hpl4 : ps.length = 4 := by have := F.pl; simpa using this
            have hup := F.ups
            have hcpl := F.cpl
            have hwl := F.wl
            have hlol := F.ll
            have hkey : ∀ c, c < 4 → el (ps.map PlX.key) c = (el ps c).key := fun c hc => el_key (by omega)
            have hnodes : ∀ c, c < 4 → ∀ x ∈ (el ps c).nodes, 0 ≤ x ∧ x < 5 := fun c hc x hx => by
              have := F.nodes c hc x (by rw [hkey c hc]; exact hx)
              exact ⟨this.1, this.2.1⟩
            have hnl : ∀ p ∈ ps, p.nodes.length ≤ 5 := fun p hp => F.formed.len p.key (List.mem_map.2 ⟨p, hp, rfl⟩)
            obtain ⟨n, hn, hn5⟩ : ∃ n : Nat, (el l i).node % 18446744073709551616 % 5 = (n : Int) ∧ n < 5 := ⟨((el l i).node % 18446744073709551616 % 5).toNat, by omega, by omega⟩
            obtain ⟨b, hb, hb24⟩ : ∃ b : Nat, ((el l i).lba : Int) % 24 = (b : Int) ∧ b < 24 := ⟨(el l i).lba % 24, by omega, by omega⟩
            refine W.skip ?_
            refine WX.next ?_
            refine W.seq ?_
            refine W.block ?_
            refine W.seq ?_
            refine W.region ?_
            refine WL.move rfl rfl ?_
            refine WL.move rfl rfl ?_
            refine WL.idxA Try.underlying22 Try.sizeOf43 rfl rfl (RdL.isSome (E := turnE) (by first | with_reducible assumption | with_reducible exact RdL.mem (by with_reducible assumption) M | exact M.rdL (by first | ((repeat (first | with_reducible exact Has.here | with_reducible refine Has.there ?_)); done) | (repeat (first | exact Has.here | refine Has.there ?_))) | exact RdLH.at (by assumption) (M.sel (by first | ((repeat (first | with_reducible exact Sel.refl | with_reducible exact Sel.nil | with_reducible exact Del.here | with_reducible apply Del.there | with_reducible apply Sel.cons | with_reducible apply Sel.drop)); done) | (repeat (first | exact Sel.refl | exact Sel.nil | exact Del.here | apply Del.there | apply Sel.cons | apply Sel.drop)))) | exact RdL.nil _ _ _) (by omega)) (by omega) (by omega) (by first | exact rfl | exact (Int.toNat_of_nonneg (by omega)).symm) rfl ?_
            refine WL.loadL (E := turnE) (cs := [_, _, _, _]) Try.isAgg43 Try.sizeOf43 rfl (by first | with_reducible assumption | with_reducible exact RdL.mem (by with_reducible assumption) M | exact M.rdL (by first | ((repeat (first | with_reducible exact Has.here | with_reducible refine Has.there ?_)); done) | (repeat (first | exact Has.here | refine Has.there ?_))) | exact RdLH.at (by assumption) (M.sel (by first | ((repeat (first | with_reducible exact Sel.refl | with_reducible exact Sel.nil | with_reducible exact Del.here | with_reducible apply Del.there | with_reducible apply Sel.cons | with_reducible apply Sel.drop)); done) | (repeat (first | exact Sel.refl | exact Sel.nil | exact Del.here | apply Del.there | apply Sel.cons | apply Sel.drop)))) | exact RdL.nil _ _ _) rfl (by omega) rfl rfl ?_
            refine WL.alloc Try.zeroValue43 M rfl ?_
            intro g14_4 w M
            try simp only [Value.cells] at M
            try simp only [List.toList_toArray] at M
            refine WL.storeWA Try.sizeOf43 rfl rfl (by repeat (first | exact oneNil | refine oneCons rfl ?_)) rfl rfl M (by first | ((repeat (first | with_reducible exact Upd.here | with_reducible apply Upd.there)); done) | (repeat (first | exact Upd.here | apply Upd.there))) ?_
            intro w M
            refine WL.nil ?_
            refine WX.next ?_
            refine W.sub [(0, _), (3, _), (4, _), (6, _), (7, _), (8, _), (9, _)] (.cons rfl (.cons rfl (.cons rfl (.cons rfl (.cons rfl (.cons rfl (.cons rfl .nil))))))) ?_
            refine W.seq ?_
            refine W.region ?_
            refine WL.fieldR (off := 1) Try.underlying43 rfl rfl Try.sizeOf3 rfl rfl rfl ?_
            refine WL.loadR Try.isAgg3 rfl M (by first | ((repeat (first | with_reducible exact Has.here | with_reducible refine Has.there ?_)); done) | (repeat (first | exact Has.here | refine Has.there ?_))) rfl rfl ?_
            refine WL.conv Try.underlying3 Try.underlying44 rfl (by first | exact wU64 (by omega) | exact mU64 _ | rfl) rfl ?_
            refine WL.rem rfl rfl (by omega) (remN (by omega)) rfl ?_
            refine WL.conv Try.underlying44 Try.underlying3 rfl (by first | exact wI64 (by omega) | rfl) rfl ?_
            rw [hn]
            refine WL.assign rfl rfl ?_
            refine WL.nil ?_
            refine WX.next ?_
            refine W.sub [(0, _), (3, _), (4, _), (6, _), (7, _), (8, _), (9, _), (10, _)] (.cons rfl (.cons rfl (.cons rfl (.cons rfl (.cons rfl (.cons rfl (.cons rfl (.cons rfl .nil)))))))) ?_
            refine W.joint (fun (z : Nat × (Option Addr × Nat × List PlX) × List UInt8 × List UInt8 × List Bool) => [(0, .slice As l.length cs), (3, .pointer (some ⟨g1_1, 0, none⟩)), (4, .pointer (some ⟨g2_1, 0, none⟩)), (6, .pointer (some ⟨g9_0, 0, none⟩)), (7, .pointer (some ⟨g10_0, 0, none⟩)), (8, .int .i64 (i : Int))]) (fun zj w => Mem w0 w ((fun z => [Asr.row g1_1 25 [.int .u64 24, .int .i64 6, .int .i64 2, .int .i64 3], Asr.row g2_1 33 (.int .u32 (z.1 : Int) :: .slice z.2.1.1 z.2.1.2.2.length z.2.1.2.1 :: bs z.2.2.1), Asr.lst placeE z.2.1.1 z.2.1.2.1 z.2.1.2.2, Asr.star (z.2.1.2.2.map PlX.O), Asr.row g9_0 40 (bs z.2.2.2.1), Asr.row g10_0 41 (z.2.2.2.2.map .bool)]) zj) ∧ (fun z => Farm z.1 (z.2.1.2.2.map PlX.key) z.2.2.1 z.2.2.2.1 z.2.2.2.2) zj) ?_ ?_
            · refine W.seq ?_
              refine W.region ?_
              refine WL.fieldR (off := 0) Try.underlying43 rfl rfl Try.sizeOf3 rfl rfl rfl ?_
              refine WL.loadR Try.isAgg3 rfl M (by first | ((repeat (first | with_reducible exact Has.here | with_reducible refine Has.there ?_)); done) | (repeat (first | exact Has.here | refine Has.there ?_))) rfl rfl ?_
              refine WL.nil ?_
              refine WX.next ?_
              refine W.sub [(0, _), (3, _), (4, _), (6, _), (7, _), (8, _), (9, _), (10, _), (75, _)] (.cons rfl (.cons rfl (.cons rfl (.cons rfl (.cons rfl (.cons rfl (.cons rfl (.cons rfl (.cons rfl .nil))))))))) ?_
              refine W.block ?_
              refine W.joint (fun (k : Bool) => [(0, .slice As l.length cs), (3, .pointer (some ⟨g1_1, 0, none⟩)), (4, .pointer (some ⟨g2_1, 0, none⟩)), (6, .pointer (some ⟨g9_0, 0, none⟩)), (7, .pointer (some ⟨g10_0, 0, none⟩)), (8, .int .i64 (i : Int)), (9, .pointer (some ⟨g14_4, 0, none⟩)), (10, .int .i64 (n : Int)), (75, .int .i64 (el l i).kind), (112, .bool k)]) (fun zj w => Mem w0 w ((fun _ => [Asr.row g14_4 43 [.int .i64 (el l i).kind, .int .i64 (el l i).node, .int .u64 ((el l i).lba : Int), .int .u8 ((el l i).fill.toNat : Int)], Asr.row g1_1 25 [.int .u64 24, .int .i64 6, .int .i64 2, .int .i64 3], Asr.row g2_1 33 (.int .u32 (up : Int) :: .slice A ps.length cap :: bs cp), Asr.lst placeE A cap ps, Asr.star (ps.map PlX.O), Asr.row g9_0 40 (bs want), Asr.row g10_0 41 (lost.map .bool)]) zj) ∧ (fun _ => True) zj) ?_ ?_
              · refine W.seq ?_
                refine W.region ?_
                refine WL.eqI rfl rfl rfl ?_
                refine WL.assign rfl rfl ?_
                refine WL.nil ?_
                refine WX.next ?_
                refine W.sub [(0, _), (3, _), (4, _), (6, _), (7, _), (8, _), (9, _), (10, _), (75, _), (112, _)] (.cons rfl (.cons rfl (.cons rfl (.cons rfl (.cons rfl (.cons rfl (.cons rfl (.cons rfl (.cons rfl (.cons rfl .nil)))))))))) ?_
                refine W.ite rfl (fun c5 => ?_) (fun c5 => ?_)
                · refine W.skip ?_
                  refine WX.join (_) (by (repeat' (first | exact envSub.nil | refine envSub.cons ?_ ?_)) <;> first | rfl | (refine congrArg some ?_; refine congrArg (Value.int _) ?_; first | omega | (dsimp only; omega)) | (simp; done) | (refine congrArg some ?_; dsimp only; congr 1; omega) | (simp; omega)) ⟨M.sel (by first | ((repeat (first | with_reducible exact Sel.refl | with_reducible exact Sel.nil | with_reducible exact Del.here | with_reducible apply Del.there | with_reducible apply Sel.cons | with_reducible apply Sel.drop)); done) | (repeat (first | exact Sel.refl | exact Sel.nil | exact Del.here | apply Del.there | apply Sel.cons | apply Sel.drop))), (by first | trivial | omega | (dsimp only; omega) | (simp; done))⟩
                · refine W.region ?_
                  refine WL.eqI rfl rfl rfl ?_
                  refine WL.assign rfl rfl ?_
                  refine WL.nil ?_
                  refine WX.join (_) (by (repeat' (first | exact envSub.nil | refine envSub.cons ?_ ?_)) <;> first | rfl | (refine congrArg some ?_; refine congrArg (Value.int _) ?_; first | omega | (dsimp only; omega)) | (simp; done) | (refine congrArg some ?_; dsimp only; congr 1; omega) | (simp; omega)) ⟨M.sel (by first | ((repeat (first | with_reducible exact Sel.refl | with_reducible exact Sel.nil | with_reducible exact Del.here | with_reducible apply Del.there | with_reducible apply Sel.cons | with_reducible apply Sel.drop)); done) | (repeat (first | exact Sel.refl | exact Sel.nil | exact Del.here | apply Del.there | apply Sel.cons | apply Sel.drop))), (by first | trivial | omega | (dsimp only; omega) | (simp; done))⟩
              clear M; rintro (kd) w ⟨M, _⟩; dsimp only at M ⊢
              refine W.sub [(0, _), (3, _), (4, _), (6, _), (7, _), (8, _), (9, _), (10, _), (75, _), (112, _)] (.cons rfl (.cons rfl (.cons rfl (.cons rfl (.cons rfl (.cons rfl (.cons rfl (.cons rfl (.cons rfl (.cons rfl .nil)))))))))) ?_
              refine W.cond rfl (fun c6 => ?_) (fun c6 => ?_)
              · (try simp only [Bool.not_eq_true'] at c6); (try simp only [Bool.not_eq_false'] at c6); (try simp only [decide_eq_true_eq] at c6); (try simp only [decide_eq_false_iff_not] at c6)
                refine W.seq ?_
                refine W.region ?_
                refine WL.loadW Try.isAgg25 Try.sizeOf25 rfl M (by first | ((repeat (first | with_reducible exact Has.here | with_reducible refine Has.there ?_)); done) | (repeat (first | exact Has.here | refine Has.there ?_))) rfl rfl ?_
                refine WL.fieldR (off := 2) Try.underlying43 rfl rfl Try.sizeOf23 rfl rfl rfl ?_
                refine WL.loadR Try.isAgg23 rfl M (by first | ((repeat (first | with_reducible exact Has.here | with_reducible refine Has.there ?_)); done) | (repeat (first | exact Has.here | refine Has.there ?_))) rfl rfl ?_
                refine WL.rem rfl rfl (by omega) (remN (by omega)) rfl ?_
                rw [hb]
                refine WL.call Try.call6 rfl (Where_ok hb24 _) rfl ?_
                rintro _ w ⟨rfl, m⟩
                replace M := M.call0 m; clear m
                have hc4 := cOf_lt hb24
                have ha6 := aOf_lt b
                have hcl : cOf b < ps.length := by omega
                have hnl1 := hnl _ (el_mem hcl)
                refine WL.move rfl rfl ?_
                refine WL.extractL rfl rfl rfl ?_
                refine WL.extractL rfl rfl rfl ?_
                refine WL.extractL rfl rfl rfl ?_
                refine WL.assign rfl rfl ?_
                refine WL.assign rfl rfl ?_
                refine WL.assign rfl rfl ?_
                refine WL.nil ?_
                refine WX.next ?_
                refine W.sub [(0, _), (3, _), (4, _), (6, _), (7, _), (8, _), (9, _), (11, _), (12, _), (13, _)] (.cons rfl (.cons rfl (.cons rfl (.cons rfl (.cons rfl (.cons rfl (.cons rfl (.cons rfl (.cons rfl (.cons rfl .nil)))))))))) ?_
                refine W.seq ?_
                refine W.seq ?_
                refine W.region ?_
                refine WL.move rfl rfl ?_
                refine WL.neI rfl rfl rfl ?_
                refine WL.moveIf rfl rfl (fun c7 => ?_) (fun c7 => ?_)
                · exact absurd c7 (by first | omega | simp)
                · refine WL.on rfl rfl ?_
                  refine WL.move rfl rfl ?_
                  refine WL.on rfl rfl ?_
                  refine WL.lss rfl rfl rfl ?_
                  refine WL.pickF rfl rfl rfl ?_
                  refine WL.moveIf rfl rfl (fun c8 => ?_) (fun c8 => ?_)
                  · exact absurd c8 (by first | omega | simp)
                  · refine WL.on rfl rfl ?_
                    refine WL.move rfl rfl ?_
                    refine WL.on rfl rfl ?_
                    refine WL.gtr rfl rfl rfl ?_
                    refine WL.pickF rfl rfl rfl ?_
                    refine WL.moveIf rfl rfl (fun c9 => ?_) (fun c9 => ?_)
                    · exact absurd c9 (by first | omega | simp)
                    · refine WL.on rfl rfl ?_
                      refine WL.move rfl rfl ?_
                      refine WL.on rfl rfl ?_
                      refine WL.lss rfl rfl rfl ?_
                      refine WL.pickF rfl rfl rfl ?_
                      refine WL.moveIf rfl rfl (fun c10 => ?_) (fun c10 => ?_)
                      · exact absurd c10 (by first | omega | simp)
                      · refine WL.on rfl rfl ?_
                        refine WL.move rfl rfl ?_
                        refine WL.on rfl rfl ?_
                        refine WL.gtr rfl rfl rfl ?_
                        refine WL.pickF rfl rfl rfl ?_
                        refine WL.nil ?_
                        refine WX.next ?_
                        refine W.sub [(0, _), (3, _), (4, _), (6, _), (7, _), (8, _), (9, _), (11, _), (12, _), (141, _)] (.cons rfl (.cons rfl (.cons rfl (.cons rfl (.cons rfl (.cons rfl (.cons rfl (.cons rfl (.cons rfl (.cons rfl .nil)))))))))) ?_
                        refine W.ite rfl (fun c11 => ?_) (fun c11 => ?_)
                        · exact absurd c11 (by first | omega | simp)
                        · refine W.skip ?_
                          refine WX.next ?_
                          refine W.seq ?_
                          refine W.seq ?_
                          refine W.region ?_
                          refine WL.assign rfl rfl ?_
                          refine WL.nil ?_
                          refine WX.next ?_
                          refine W.sub [(0, _), (3, _), (4, _), (6, _), (7, _), (8, _), (9, _), (11, _), (12, _), (14, _)] (.cons rfl (.cons rfl (.cons rfl (.cons rfl (.cons rfl (.cons rfl (.cons rfl (.cons rfl (.cons rfl (.cons rfl .nil)))))))))) ?_
                          refine W.block ?_
                          refine W.loop (ι := Nat × List UInt8) (fun z => [(0, .slice As l.length cs), (3, .pointer (some ⟨g1_1, 0, none⟩)), (4, .pointer (some ⟨g2_1, 0, none⟩)), (6, .pointer (some ⟨g9_0, 0, none⟩)), (7, .pointer (some ⟨g10_0, 0, none⟩)), (8, .int .i64 (i : Int)), (9, .pointer (some ⟨g14_4, 0, none⟩)), (11, .int .i64 (cOf b : Int)), (12, .int .i64 (aOf b : Int)), (14, .int .i64 (z.1 : Int))]) (fun zz w => Mem w0 w ((fun z => [Asr.row g14_4 43 [.int .i64 (el l i).kind, .int .i64 (el l i).node, .int .u64 ((el l i).lba : Int), .int .u8 ((el l i).fill.toNat : Int)], Asr.row g1_1 25 [.int .u64 24, .int .i64 6, .int .i64 2, .int .i64 3], Asr.row g2_1 33 (.int .u32 (up : Int) :: .slice A ps.length cap :: bs z.2), Asr.lst placeE A cap ps, Asr.star (ps.map PlX.O), Asr.row g9_0 40 (bs want), Asr.row g10_0 41 (lost.map .bool)]) zz) ∧ (fun z => z.1 ≤ (el ps (cOf b)).nodes.length ∧ z.2.length = 120 ∧ (∀ j, j < z.1 → el z.2 (cAt (el (el ps (cOf b)).nodes j).toNat (cOf b) (aOf b)) = (el l i).fill) ∧ (∀ q, (∀ x, x < 5 → q ≠ cAt x (cOf b) (aOf b)) → el z.2 q = el cp q)) zz) (fun z => (el ps (cOf b)).nodes.length - z.1) ((0, cp)) (by (repeat' (first | exact envSub.nil | refine envSub.cons ?_ ?_)) <;> first | rfl | (refine congrArg some ?_; refine congrArg (Value.int _) ?_; first | omega | (dsimp only; omega)) | (simp; done) | (refine congrArg some ?_; dsimp only; congr 1; omega) | (simp; omega)) ⟨M.sel (by first | ((repeat (first | with_reducible exact Sel.refl | with_reducible exact Sel.nil | with_reducible exact Del.here | with_reducible apply Del.there | with_reducible apply Sel.cons | with_reducible apply Sel.drop)); done) | (repeat (first | exact Sel.refl | exact Sel.nil | exact Del.here | apply Del.there | apply Sel.cons | apply Sel.drop))), ⟨Nat.zero_le _, hcpl, fun j hj => absurd hj (Nat.not_lt_zero _), fun q _ => rfl⟩⟩ ?_
                          clear M; rintro (⟨k, cq⟩) w ⟨M, ⟨hk, hcq, hd1, hd2⟩⟩; dsimp only at M hk hcq hd1 hd2 ⊢
                          refine W.sub [(0, _), (3, _), (4, _), (6, _), (7, _), (8, _), (9, _), (11, _), (12, _), (14, _)] (.cons rfl (.cons rfl (.cons rfl (.cons rfl (.cons rfl (.cons rfl (.cons rfl (.cons rfl (.cons rfl (.cons rfl .nil)))))))))) ?_
                          refine W.seq ?_
                          refine W.seq ?_
                          refine W.region ?_
                          refine WL.move rfl rfl ?_
                          refine WL.move rfl rfl ?_
                          refine WL.nilCheck rfl rfl ?_
                          refine WL.fieldR (off := 1) Try.underlying33 rfl rfl Try.sizeOf28 rfl rfl rfl ?_
                          refine WL.loadR Try.isAgg28 rfl M (by first | ((repeat (first | with_reducible exact Has.here | with_reducible refine Has.there ?_)); done) | (repeat (first | exact Has.here | refine Has.there ?_))) rfl rfl ?_
                          refine WL.move rfl rfl ?_
                          refine WL.idxA Try.underlying28 Try.sizeOf36 rfl rfl (RdL.isSome (E := placeE) (by first | with_reducible assumption | with_reducible exact RdL.mem (by with_reducible assumption) M | exact M.rdL (by first | ((repeat (first | with_reducible exact Has.here | with_reducible refine Has.there ?_)); done) | (repeat (first | exact Has.here | refine Has.there ?_))) | exact RdLH.at (by assumption) (M.sel (by first | ((repeat (first | with_reducible exact Sel.refl | with_reducible exact Sel.nil | with_reducible exact Del.here | with_reducible apply Del.there | with_reducible apply Sel.cons | with_reducible apply Sel.drop)); done) | (repeat (first | exact Sel.refl | exact Sel.nil | exact Del.here | apply Del.there | apply Sel.cons | apply Sel.drop)))) | exact RdL.nil _ _ _) (by omega)) (by omega) (by omega) (by first | exact rfl | exact (Int.toNat_of_nonneg (by omega)).symm) rfl ?_
                          refine WL.fieldA (off := 1) Try.underlying36 rfl rfl Try.sizeOf34 rfl rfl rfl ?_
                          refine WL.loadE (E := placeE) Try.isAgg34 rfl (by first | with_reducible assumption | with_reducible exact RdL.mem (by with_reducible assumption) M | exact M.rdL (by first | ((repeat (first | with_reducible exact Has.here | with_reducible refine Has.there ?_)); done) | (repeat (first | exact Has.here | refine Has.there ?_))) | exact RdLH.at (by assumption) (M.sel (by first | ((repeat (first | with_reducible exact Sel.refl | with_reducible exact Sel.nil | with_reducible exact Del.here | with_reducible apply Del.there | with_reducible apply Sel.cons | with_reducible apply Sel.drop)); done) | (repeat (first | exact Sel.refl | exact Sel.nil | exact Del.here | apply Del.there | apply Sel.cons | apply Sel.drop)))) | exact RdL.nil _ _ _) (by omega) rfl rfl ?_
                          refine WL.len Try.underlying34 rfl rfl ?_
                          refine WL.lss rfl rfl rfl ?_
                          refine WL.nil ?_
                          refine WX.next ?_
                          refine W.sub [(0, _), (3, _), (4, _), (6, _), (7, _), (8, _), (9, _), (11, _), (12, _), (14, _), (152, _)] (.cons rfl (.cons rfl (.cons rfl (.cons rfl (.cons rfl (.cons rfl (.cons rfl (.cons rfl (.cons rfl (.cons rfl (.cons rfl .nil))))))))))) ?_
                          refine W.ite rfl (fun c12 => ?_) (fun c12 => ?_)
                          · have hkl : k < (el ps (cOf b)).nodes.length := by omega
                            have hnk := hnodes _ hc4 _ (el_mem hkl)
                            obtain ⟨x, hxx⟩ : ∃ x : Nat, el (el ps (cOf b)).nodes k = (x : Int) := ⟨(el (el ps (cOf b)).nodes k).toNat, by omega⟩
                            have hx5 : x < 5 := by omega
                            have hct : cAt x (cOf b) (aOf b) < cq.length := by rw [hcq]; exact cAt_lt hx5 hc4 ha6
                            refine W.skip ?_
                            refine WX.next ?_
                            refine W.seq ?_
                            refine W.block ?_
                            refine W.drawM ([Asr.row g14_4 43 [.int .i64 (el l i).kind, .int .i64 (el l i).node, .int .u64 ((el l i).lba : Int), .int .u8 ((el l i).fill.toNat : Int)], Asr.row g2_1 33 (.int .u32 (up : Int) :: .slice A ps.length cap :: bs cq), Asr.lst placeE A cap ps, Asr.star (ps.map PlX.O)]) (by kernel_rfl) (fun j => [4, 6, 7, 8, 10, 11, 15, 18, 19].contains j) M (by first | ((repeat (first | with_reducible exact Sel.refl | with_reducible exact Sel.nil | with_reducible exact Del.here | with_reducible apply Del.there | with_reducible apply Sel.cons | with_reducible apply Sel.drop)); done) | (repeat (first | exact Sel.refl | exact Sel.nil | exact Del.here | apply Del.there | apply Sel.cons | apply Sel.drop))) ?_
                            clear M; intro M
                            apply DG.pure_ [0, 1, 2, 3, 5, 9, 12, 13, 14, 16, 17] 11 rfl (by kernel_rfl) (by kernel_rfl)
                            · intro w
                              refine WL.move rfl rfl ?_
                              refine WL.move rfl rfl ?_
                              refine WL.nilCheck rfl rfl ?_
                              refine WL.fieldR (off := 1) Try.underlying33 rfl rfl Try.sizeOf28 rfl rfl rfl ?_
                              refine WL.move rfl rfl ?_
                              refine WL.move rfl rfl ?_
                              refine WL.move rfl rfl ?_
                              refine WL.move rfl rfl ?_
                              refine WL.fieldR (off := 3) Try.underlying43 rfl rfl Try.sizeOf5 rfl rfl rfl ?_
                              refine WL.nilCheck rfl rfl ?_
                              refine WL.fieldR (off := 2) Try.underlying33 rfl rfl Try.sizeOf31 rfl rfl rfl ?_
                              exact Chain.end_ rfl
                            apply DG.take [4, 6, 7, 8, 10, 11, 15, 18, 19, 20] 1 rfl (by kernel_rfl) (by kernel_rfl) (M.sel (by first | ((repeat (first | with_reducible exact Sel.refl | with_reducible exact Sel.nil | with_reducible exact Del.here | with_reducible apply Del.there | with_reducible apply Sel.cons | with_reducible apply Sel.drop)); done) | (repeat (first | exact Sel.refl | exact Sel.nil | exact Del.here | apply Del.there | apply Sel.cons | apply Sel.drop))))
                            · intro w M
                              refine WL.loadR Try.isAgg28 rfl M (by first | ((repeat (first | with_reducible exact Has.here | with_reducible refine Has.there ?_)); done) | (repeat (first | exact Has.here | refine Has.there ?_))) rfl rfl ?_
                              refine WL.idxA Try.underlying28 Try.sizeOf36 rfl rfl (RdL.isSome (E := placeE) (by first | with_reducible assumption | with_reducible exact RdL.mem (by with_reducible assumption) M | exact M.rdL (by first | ((repeat (first | with_reducible exact Has.here | with_reducible refine Has.there ?_)); done) | (repeat (first | exact Has.here | refine Has.there ?_))) | exact RdLH.at (by assumption) (M.sel (by first | ((repeat (first | with_reducible exact Sel.refl | with_reducible exact Sel.nil | with_reducible exact Del.here | with_reducible apply Del.there | with_reducible apply Sel.cons | with_reducible apply Sel.drop)); done) | (repeat (first | exact Sel.refl | exact Sel.nil | exact Del.here | apply Del.there | apply Sel.cons | apply Sel.drop)))) | exact RdL.nil _ _ _) (by omega)) (by omega) (by omega) (by first | exact rfl | exact (Int.toNat_of_nonneg (by omega)).symm) rfl ?_
                              refine WL.fieldA (off := 1) Try.underlying36 rfl rfl Try.sizeOf34 rfl rfl rfl ?_
                              refine WL.loadE (E := placeE) Try.isAgg34 rfl (by first | with_reducible assumption | with_reducible exact RdL.mem (by with_reducible assumption) M | exact M.rdL (by first | ((repeat (first | with_reducible exact Has.here | with_reducible refine Has.there ?_)); done) | (repeat (first | exact Has.here | refine Has.there ?_))) | exact RdLH.at (by assumption) (M.sel (by first | ((repeat (first | with_reducible exact Sel.refl | with_reducible exact Sel.nil | with_reducible exact Del.here | with_reducible apply Del.there | with_reducible apply Sel.cons | with_reducible apply Sel.drop)); done) | (repeat (first | exact Sel.refl | exact Sel.nil | exact Del.here | apply Del.there | apply Sel.cons | apply Sel.drop)))) | exact RdL.nil _ _ _) (by omega) rfl rfl ?_
                              refine WL.idxA Try.underlying34 Try.sizeOf3 rfl rfl (RdL.isSome (E := intE) (ownRd (M.starHas (f := PlX.O) (by first | ((repeat (first | with_reducible exact Has.here | with_reducible refine Has.there ?_)); done) | (repeat (first | exact Has.here | refine Has.there ?_))) (el_mem hcl))) (by omega)) (by omega) (by omega) (by first | exact rfl | exact (Int.toNat_of_nonneg (by omega)).symm) rfl ?_
                              refine WL.loadE0 (E := intE) Try.isAgg3 rfl (ownRd (M.starHas (f := PlX.O) (by first | ((repeat (first | with_reducible exact Has.here | with_reducible refine Has.there ?_)); done) | (repeat (first | exact Has.here | refine Has.there ?_))) (el_mem hcl))) (by omega) rfl rfl ?_
                              refine WL.loadR Try.isAgg5 rfl M (by first | ((repeat (first | with_reducible exact Has.here | with_reducible refine Has.there ?_)); done) | (repeat (first | exact Has.here | refine Has.there ?_))) rfl rfl ?_
                              refine WL.idxArrR Try.underlying31 Try.sizeOf30 rfl rfl (by omega) (by omega) hxx rfl ?_
                              refine WL.idxArrR Try.underlying30 Try.sizeOf29 rfl rfl (by omega) (by omega) (by first | exact rfl | exact (Int.toNat_of_nonneg (by omega)).symm) rfl ?_
                              refine WL.idxArrR Try.underlying29 Try.sizeOf5 rfl rfl (by omega) (by omega) (by first | exact rfl | exact (Int.toNat_of_nonneg (by omega)).symm) rfl ?_
                              exact Chain.end_ rfl
                            refine DG.step 21 0 rfl (by kernel_rfl) ?_
                            refine WL.storeR Try.sizeOf5 rfl rfl rfl M (by first | ((repeat (first | with_reducible exact Has.here | with_reducible refine Has.there ?_)); done) | (repeat (first | exact Has.here | refine Has.there ?_))) (farmSet hct) (by first | ((repeat (first | with_reducible exact Upd.here | with_reducible apply Upd.there)); done) | (repeat (first | exact Upd.here | apply Upd.there))) ?_
                            intro w M
                            refine DG.go (G := fun j => [4, 6, 7, 8, 10, 11, 15, 18, 19].contains j) (i := 21) (f' := 0) (done := [0, 1, 2, 3, 5, 9, 12, 13, 14, 16, 17, 4, 6, 7, 8, 10, 11, 15, 18, 19, 20]) (fun h => by cases h) ?_
                            refine DG.end_ (by kernel_rfl) ?_
                            refine WX.blockNormal ?_
                            refine WX.next ?_
                            refine W.sub [(0, _), (3, _), (4, _), (6, _), (7, _), (8, _), (9, _), (11, _), (12, _), (14, _)] (.cons rfl (.cons rfl (.cons rfl (.cons rfl (.cons rfl (.cons rfl (.cons rfl (.cons rfl (.cons rfl (.cons rfl .nil)))))))))) ?_
                            refine W.region ?_
                            refine WL.move rfl rfl ?_
                            refine WL.add rfl rfl (by first | exact wI64 (by omega) | rfl) rfl ?_
                            refine WL.assign rfl rfl ?_
                            refine WL.nil ?_
                            skip
                            have q1 : ∀ j, j < k + 1 → el (cq.set (cAt x (cOf b) (aOf b)) (el l i).fill) (cAt (el (el ps (cOf b)).nodes j).toNat (cOf b) (aOf b)) = (el l i).fill := by
                              intro j hj
                              rw [el_set _ _ _ _ hct]
                              split
                              · rfl
                              · rename_i hne
                                refine hd1 j ?_
                                rcases Nat.lt_or_ge j k with h1 | h1
                                · exact h1
                                · obtain rfl : j = k := by omega
                                  exact absurd (by rw [hxx, Int.toNat_natCast]) hne
                            have q2 : ∀ q, (∀ x, x < 5 → q ≠ cAt x (cOf b) (aOf b)) → el (cq.set (cAt x (cOf b) (aOf b)) (el l i).fill) q = el cp q := by
                              intro q hq
                              rw [el_set _ _ _ _ hct, if_neg (fun h => hq x hx5 h.symm)]
                              exact hd2 q hq
                            refine WX.round ((k + 1, cq.set (cAt x (cOf b) (aOf b)) (el l i).fill)) (by (repeat' (first | exact envSub.nil | refine envSub.cons ?_ ?_)) <;> first | rfl | (refine congrArg some ?_; refine congrArg (Value.int _) ?_; first | omega | (dsimp only; omega)) | (simp; done) | (refine congrArg some ?_; dsimp only; congr 1; omega) | (simp; omega)) ⟨M.sel (by first | ((repeat (first | with_reducible exact Sel.refl | with_reducible exact Sel.nil | with_reducible exact Del.here | with_reducible apply Del.there | with_reducible apply Sel.cons | with_reducible apply Sel.drop)); done) | (repeat (first | exact Sel.refl | exact Sel.nil | exact Del.here | apply Del.there | apply Sel.cons | apply Sel.drop))), ⟨by dsimp only; omega, by rw [List.length_set]; exact hcq, q1, q2⟩⟩ (by first | omega | (dsimp only; omega))
                          · obtain rfl : k = (el ps (cOf b)).nodes.length := by omega
                            have hF2 := F.write hb24 (v := (el l i).fill) hcq (fun x hx => by
                              rw [hkey _ hc4] at hx
                              obtain ⟨j, hj, e⟩ := List.getElem_of_mem hx
                              have := hd1 j hj
                              rwa [show el (el ps (cOf b)).nodes j = x by rw [← e]; exact el_getI hj] at this) hd2
                            refine W.exit ?_
                            refine WX.thenExit ?_
                            refine WX.thenExit ?_
                            refine WX.blockHere ?_
                            refine WX.next ?_
                            refine W.seq ?_
                            refine W.region ?_
                            refine WL.move rfl rfl ?_
                            refine WL.idxArrR Try.underlying41 Try.sizeOf4 rfl rfl (by omega) (by omega) (by first | exact rfl | exact (Int.toNat_of_nonneg (by omega)).symm) rfl ?_
                            refine WL.load Try.isAgg4 rfl (M.boolAt (by first | ((repeat (first | with_reducible exact Has.here | with_reducible refine Has.there ?_)); done) | (repeat (first | exact Has.here | refine Has.there ?_))) (by omega)) rfl ?_
                            refine WL.not rfl rfl ?_
                            refine WL.nil ?_
                            refine WX.next ?_
                            refine W.sub [(0, _), (3, _), (4, _), (6, _), (7, _), (8, _), (9, _), (179, _)] (.cons rfl (.cons rfl (.cons rfl (.cons rfl (.cons rfl (.cons rfl (.cons rfl (.cons rfl .nil)))))))) ?_
                            refine W.cond rfl (fun c13 => ?_) (fun c13 => ?_)
                            · (try simp only [Bool.not_eq_true'] at c13); (try simp only [Bool.not_eq_false'] at c13); (try simp only [decide_eq_true_eq] at c13); (try simp only [decide_eq_false_iff_not] at c13)
                              refine W.region ?_
                              refine WL.fieldR (off := 2) Try.underlying43 rfl rfl Try.sizeOf23 rfl rfl rfl ?_
                              refine WL.loadR Try.isAgg23 rfl M (by first | ((repeat (first | with_reducible exact Has.here | with_reducible refine Has.there ?_)); done) | (repeat (first | exact Has.here | refine Has.there ?_))) rfl rfl ?_
                              refine WL.rem rfl rfl (by omega) (remN (by omega)) rfl ?_
                              rw [hb]
                              refine WL.fieldR (off := 3) Try.underlying43 rfl rfl Try.sizeOf5 rfl rfl rfl ?_
                              refine WL.loadR Try.isAgg5 rfl M (by first | ((repeat (first | with_reducible exact Has.here | with_reducible refine Has.there ?_)); done) | (repeat (first | exact Has.here | refine Has.there ?_))) rfl rfl ?_
                              refine WL.idxArrR Try.underlying40 Try.sizeOf5 rfl rfl (by omega) (by omega) (by first | exact rfl | exact (Int.toNat_of_nonneg (by omega)).symm) rfl ?_
                              refine WL.storeR Try.sizeOf5 rfl rfl rfl M (by first | ((repeat (first | with_reducible exact Has.here | with_reducible refine Has.there ?_)); done) | (repeat (first | exact Has.here | refine Has.there ?_))) (SetAt.bs0 (by omega)) (by first | ((repeat (first | with_reducible exact Upd.here | with_reducible apply Upd.there)); done) | (repeat (first | exact Upd.here | apply Upd.there))) ?_
                              intro w M
                              refine WL.nil ?_
                              refine WX.blockNormal ?_
                              have q : Farm up (ps.map PlX.key) cq (want.set b (el l i).fill) lost := by
                                rwa [if_neg (by rw [c13]; simp)] at hF2
                              refine WX.join ((up, (A, cap, ps), cq, want.set b (el l i).fill, lost)) (by (repeat' (first | exact envSub.nil | refine envSub.cons ?_ ?_)) <;> first | rfl | (refine congrArg some ?_; refine congrArg (Value.int _) ?_; first | omega | (dsimp only; omega)) | (simp; done) | (refine congrArg some ?_; dsimp only; congr 1; omega) | (simp; omega)) ⟨M.sel (by first | ((repeat (first | with_reducible exact Sel.refl | with_reducible exact Sel.nil | with_reducible exact Del.here | with_reducible apply Del.there | with_reducible apply Sel.cons | with_reducible apply Sel.drop)); done) | (repeat (first | exact Sel.refl | exact Sel.nil | exact Del.here | apply Del.there | apply Sel.cons | apply Sel.drop))), q⟩
                            · (try simp only [Bool.not_eq_true'] at c13); (try simp only [Bool.not_eq_false'] at c13); (try simp only [decide_eq_true_eq] at c13); (try simp only [decide_eq_false_iff_not] at c13)
                              refine W.skip ?_
                              refine WX.blockNormal ?_
                              have q : Farm up (ps.map PlX.key) cq want lost := by
                                rwa [if_pos c13] at hF2
                              refine WX.join ((up, (A, cap, ps), cq, want, lost)) (by (repeat' (first | exact envSub.nil | refine envSub.cons ?_ ?_)) <;> first | rfl | (refine congrArg some ?_; refine congrArg (Value.int _) ?_; first | omega | (dsimp only; omega)) | (simp; done) | (refine congrArg some ?_; dsimp only; congr 1; omega) | (simp; omega)) ⟨M.sel (by first | ((repeat (first | with_reducible exact Sel.refl | with_reducible exact Sel.nil | with_reducible exact Del.here | with_reducible apply Del.there | with_reducible apply Sel.cons | with_reducible apply Sel.drop)); done) | (repeat (first | exact Sel.refl | exact Sel.nil | exact Del.here | apply Del.there | apply Sel.cons | apply Sel.drop))), q⟩
              · (try simp only [Bool.not_eq_true'] at c6); (try simp only [Bool.not_eq_false'] at c6); (try simp only [decide_eq_true_eq] at c6); (try simp only [decide_eq_false_iff_not] at c6)
                refine W.seq ?_
                refine W.region ?_
                refine WL.eqI rfl rfl rfl ?_
                refine WL.assign rfl rfl ?_
                refine WL.nil ?_
                refine WX.next ?_
                refine W.sub [(0, _), (3, _), (4, _), (6, _), (7, _), (8, _), (10, _), (75, _), (186, _)] (.cons rfl (.cons rfl (.cons rfl (.cons rfl (.cons rfl (.cons rfl (.cons rfl (.cons rfl (.cons rfl .nil))))))))) ?_
                refine W.ite rfl (fun c14 => ?_) (fun c14 => ?_)
                · refine W.seq ?_
                  refine W.region ?_
                  refine WL.move rfl rfl ?_
                  refine WL.nilCheck rfl rfl ?_
                  refine WL.fieldR (off := 1) Try.underlying33 rfl rfl Try.sizeOf28 rfl rfl rfl ?_
                  refine WL.loadR Try.isAgg28 rfl M (by first | ((repeat (first | with_reducible exact Has.here | with_reducible refine Has.there ?_)); done) | (repeat (first | exact Has.here | refine Has.there ?_))) rfl rfl ?_
                  refine WL.assign rfl rfl ?_
                  refine WL.nil ?_
                  refine WX.next ?_
                  refine W.sub [(0, _), (3, _), (4, _), (6, _), (7, _), (8, _), (10, _), (15, _)] (.cons rfl (.cons rfl (.cons rfl (.cons rfl (.cons rfl (.cons rfl (.cons rfl (.cons rfl .nil)))))))) ?_
                  refine W.seq ?_
                  refine W.region ?_
                  refine WL.move rfl rfl ?_
                  refine WL.move rfl rfl ?_
                  refine WL.call Try.call7 rfl (gone_ok hup hn5 hpl4 hnl hcpl w0 w _ _ M (by first | ((repeat (first | with_reducible exact Del.here | with_reducible apply Del.there)); done) | (repeat (first | exact Del.here | apply Del.there))) (fun w M => M.rdP (by first | ((repeat (first | with_reducible exact Has.here | with_reducible refine Has.there ?_)); done) | (repeat (first | exact Has.here | refine Has.there ?_))) (by first | ((repeat (first | with_reducible exact Has.here | with_reducible refine Has.there ?_)); done) | (repeat (first | exact Has.here | refine Has.there ?_))))) rfl ?_
                  rintro _ w ⟨A2, cap2, ps2, hk2, hl2, M⟩
                  have hkey2 : ∀ c, c < 4 → (el (goneP (ps.map PlX.key) (n : Int)) c).nodes = (el ps2 c).nodes := fun c hc => by rw [← hk2, el_key (by omega)]; rfl
                  refine WL.nil ?_
                  refine WX.next ?_
                  refine W.sub [(0, _), (3, _), (4, _), (6, _), (7, _), (8, _), (15, _)] (.cons rfl (.cons rfl (.cons rfl (.cons rfl (.cons rfl (.cons rfl (.cons rfl .nil))))))) ?_
                  refine W.seq ?_
                  refine W.region ?_
                  refine WL.assign rfl rfl ?_
                  refine WL.nil ?_
                  refine WX.next ?_
                  refine W.sub [(0, _), (3, _), (4, _), (6, _), (7, _), (8, _), (15, _), (16, _)] (.cons rfl (.cons rfl (.cons rfl (.cons rfl (.cons rfl (.cons rfl (.cons rfl (.cons rfl .nil)))))))) ?_
                  refine W.block ?_
                  refine W.loop (ι := Nat × List Bool) (fun z => [(0, .slice As l.length cs), (3, .pointer (some ⟨g1_1, 0, none⟩)), (4, .pointer (some ⟨g2_1, 0, none⟩)), (6, .pointer (some ⟨g9_0, 0, none⟩)), (7, .pointer (some ⟨g10_0, 0, none⟩)), (8, .int .i64 (i : Int)), (15, .slice A ps.length cap), (16, .int .i64 (z.1 : Int))]) (fun zz w => Mem w0 w ((fun z => [Asr.row g1_1 25 [.int .u64 24, .int .i64 6, .int .i64 2, .int .i64 3], Asr.row g2_1 33 (.int .u32 (upGone up n : Int) :: .slice A2 ps2.length cap2 :: bs (cpGone cp n)), Asr.lst placeE A2 cap2 ps2, Asr.star (ps2.map PlX.O), Asr.row g9_0 40 (bs want), Asr.row g10_0 41 (z.2.map .bool), Asr.lst placeE A cap ps]) zz) ∧ (fun z => z.1 ≤ 4 ∧ z.2.length = 4 ∧ (∀ d, d < z.1 → (el z.2 d = true ↔ (el (goneP (ps.map PlX.key) (n : Int)) d).nodes = [])) ∧ (∀ d, z.1 ≤ d → el z.2 d = el lost d)) zz) (fun z => 4 - z.1) ((0, lost)) (by (repeat' (first | exact envSub.nil | refine envSub.cons ?_ ?_)) <;> first | rfl | (refine congrArg some ?_; refine congrArg (Value.int _) ?_; first | omega | (dsimp only; omega)) | (simp; done) | (refine congrArg some ?_; dsimp only; congr 1; omega) | (simp; omega)) ⟨M.sel (by first | ((repeat (first | with_reducible exact Sel.refl | with_reducible exact Sel.nil | with_reducible exact Del.here | with_reducible apply Del.there | with_reducible apply Sel.cons | with_reducible apply Sel.drop)); done) | (repeat (first | exact Sel.refl | exact Sel.nil | exact Del.here | apply Del.there | apply Sel.cons | apply Sel.drop))), ⟨Nat.zero_le _, hlol, fun d hd => absurd hd (Nat.not_lt_zero _), fun d _ => rfl⟩⟩ ?_
                  clear M; rintro (⟨c, lq⟩) w ⟨M, ⟨hc, hlq, hg1, hg2⟩⟩; dsimp only at M hc hlq hg1 hg2 ⊢
                  refine W.sub [(0, _), (3, _), (4, _), (6, _), (7, _), (8, _), (15, _), (16, _)] (.cons rfl (.cons rfl (.cons rfl (.cons rfl (.cons rfl (.cons rfl (.cons rfl (.cons rfl .nil)))))))) ?_
                  refine W.seq ?_
                  refine W.seq ?_
                  refine W.region ?_
                  refine WL.move rfl rfl ?_
                  refine WL.lss rfl rfl rfl ?_
                  refine WL.nil ?_
                  refine WX.next ?_
                  refine W.sub [(0, _), (3, _), (4, _), (6, _), (7, _), (8, _), (15, _), (16, _), (196, _)] (.cons rfl (.cons rfl (.cons rfl (.cons rfl (.cons rfl (.cons rfl (.cons rfl (.cons rfl (.cons rfl .nil))))))))) ?_
                  refine W.ite rfl (fun c15 => ?_) (fun c15 => ?_)
                  · have hc4 : c < 4 := by omega
                    have hgo : el lost c = true → (el (goneP (ps.map PlX.key) (n : Int)) c).nodes = [] := fun h => by rw [el_goneP F _ hc4, (F.gone c hc4).1 h]; rfl
                    refine W.skip ?_
                    refine WX.next ?_
                    refine W.seq ?_
                    refine W.block ?_
                    refine W.joint (fun (lr : List Bool) => [(0, .slice As l.length cs), (3, .pointer (some ⟨g1_1, 0, none⟩)), (4, .pointer (some ⟨g2_1, 0, none⟩)), (6, .pointer (some ⟨g9_0, 0, none⟩)), (7, .pointer (some ⟨g10_0, 0, none⟩)), (8, .int .i64 (i : Int)), (15, .slice A ps.length cap), (16, .int .i64 (c : Int))]) (fun zj w => Mem w0 w ((fun lr => [Asr.row g1_1 25 [.int .u64 24, .int .i64 6, .int .i64 2, .int .i64 3], Asr.row g2_1 33 (.int .u32 (upGone up n : Int) :: .slice A2 ps2.length cap2 :: bs (cpGone cp n)), Asr.lst placeE A2 cap2 ps2, Asr.star (ps2.map PlX.O), Asr.row g9_0 40 (bs want), Asr.row g10_0 41 (lr.map .bool), Asr.lst placeE A cap ps]) zj) ∧ (fun lr => lr.length = 4 ∧ (∀ d, d < c + 1 → (el lr d = true ↔ (el (goneP (ps.map PlX.key) (n : Int)) d).nodes = [])) ∧ (∀ d, c + 1 ≤ d → el lr d = el lost d)) zj) ?_ ?_
                    · refine W.seq ?_
                      refine W.region ?_
                      refine WL.move rfl rfl ?_
                      refine WL.nilCheck rfl rfl ?_
                      refine WL.fieldR (off := 1) Try.underlying33 rfl rfl Try.sizeOf28 rfl rfl rfl ?_
                      refine WL.loadR Try.isAgg28 rfl M (by first | ((repeat (first | with_reducible exact Has.here | with_reducible refine Has.there ?_)); done) | (repeat (first | exact Has.here | refine Has.there ?_))) rfl rfl ?_
                      refine WL.move rfl rfl ?_
                      refine WL.idxA Try.underlying28 Try.sizeOf36 rfl rfl (RdL.isSome (E := placeE) (by first | with_reducible assumption | with_reducible exact RdL.mem (by with_reducible assumption) M | exact M.rdL (by first | ((repeat (first | with_reducible exact Has.here | with_reducible refine Has.there ?_)); done) | (repeat (first | exact Has.here | refine Has.there ?_))) | exact RdLH.at (by assumption) (M.sel (by first | ((repeat (first | with_reducible exact Sel.refl | with_reducible exact Sel.nil | with_reducible exact Del.here | with_reducible apply Del.there | with_reducible apply Sel.cons | with_reducible apply Sel.drop)); done) | (repeat (first | exact Sel.refl | exact Sel.nil | exact Del.here | apply Del.there | apply Sel.cons | apply Sel.drop)))) | exact RdL.nil _ _ _) (by omega)) (by omega) (by omega) (by first | exact rfl | exact (Int.toNat_of_nonneg (by omega)).symm) rfl ?_
                      refine WL.fieldA (off := 1) Try.underlying36 rfl rfl Try.sizeOf34 rfl rfl rfl ?_
                      refine WL.loadE (E := placeE) Try.isAgg34 rfl (by first | with_reducible assumption | with_reducible exact RdL.mem (by with_reducible assumption) M | exact M.rdL (by first | ((repeat (first | with_reducible exact Has.here | with_reducible refine Has.there ?_)); done) | (repeat (first | exact Has.here | refine Has.there ?_))) | exact RdLH.at (by assumption) (M.sel (by first | ((repeat (first | with_reducible exact Sel.refl | with_reducible exact Sel.nil | with_reducible exact Del.here | with_reducible apply Del.there | with_reducible apply Sel.cons | with_reducible apply Sel.drop)); done) | (repeat (first | exact Sel.refl | exact Sel.nil | exact Del.here | apply Del.there | apply Sel.cons | apply Sel.drop)))) | exact RdL.nil _ _ _) (by omega) rfl rfl ?_
                      refine WL.len Try.underlying34 rfl rfl ?_
                      refine WL.eqI rfl rfl rfl ?_
                      refine WL.nil ?_
                      refine WX.next ?_
                      refine W.sub [(0, _), (3, _), (4, _), (6, _), (7, _), (8, _), (15, _), (16, _), (208, _)] (.cons rfl (.cons rfl (.cons rfl (.cons rfl (.cons rfl (.cons rfl (.cons rfl (.cons rfl (.cons rfl .nil))))))))) ?_
                      refine W.ite rfl (fun c16 => ?_) (fun c16 => ?_)
                      · refine W.region ?_
                        refine WL.move rfl rfl ?_
                        refine WL.idxArrR Try.underlying41 Try.sizeOf4 rfl rfl (by omega) (by omega) (by first | exact rfl | exact (Int.toNat_of_nonneg (by omega)).symm) rfl ?_
                        refine WL.storeR Try.sizeOf4 rfl rfl rfl M (by first | ((repeat (first | with_reducible exact Has.here | with_reducible refine Has.there ?_)); done) | (repeat (first | exact Has.here | refine Has.there ?_))) (SetAt.bools0 (by omega)) (by first | ((repeat (first | with_reducible exact Upd.here | with_reducible apply Upd.there)); done) | (repeat (first | exact Upd.here | apply Upd.there))) ?_
                        intro w M
                        refine WL.nil ?_
                        have q1 : ∀ d, d < c + 1 → (el (lq.set c true) d = true ↔ (el (goneP (ps.map PlX.key) (n : Int)) d).nodes = []) := by
                          intro d hd
                          rw [el_set _ _ _ _ (by omega)]
                          rcases Nat.lt_or_ge d c with h1 | h1
                          · rw [if_neg (by omega)]
                            exact hg1 d h1
                          · obtain rfl : d = c := by omega
                            rw [if_pos rfl, hkey2 d hc4]
                            simp only [true_iff]
                            exact List.eq_nil_of_length_eq_zero (by omega)
                        have q2 : ∀ d, c + 1 ≤ d → el (lq.set c true) d = el lost d := by
                          intro d hd
                          rw [el_set _ _ _ _ (by omega), if_neg (by omega)]
                          exact hg2 d (by omega)
                        refine WX.join (lq.set c true) (by (repeat' (first | exact envSub.nil | refine envSub.cons ?_ ?_)) <;> first | rfl | (refine congrArg some ?_; refine congrArg (Value.int _) ?_; first | omega | (dsimp only; omega)) | (simp; done) | (refine congrArg some ?_; dsimp only; congr 1; omega) | (simp; omega)) ⟨M.sel (by first | ((repeat (first | with_reducible exact Sel.refl | with_reducible exact Sel.nil | with_reducible exact Del.here | with_reducible apply Del.there | with_reducible apply Sel.cons | with_reducible apply Sel.drop)); done) | (repeat (first | exact Sel.refl | exact Sel.nil | exact Del.here | apply Del.there | apply Sel.cons | apply Sel.drop))), ⟨by rw [List.length_set]; exact hlq, q1, q2⟩⟩
                      · refine W.skip ?_
                        have q1 : ∀ d, d < c + 1 → (el lq d = true ↔ (el (goneP (ps.map PlX.key) (n : Int)) d).nodes = []) := by
                          intro d hd
                          rcases Nat.lt_or_ge d c with h1 | h1
                          · exact hg1 d h1
                          · obtain rfl : d = c := by omega
                            rw [hg2 d (Nat.le_refl _)]
                            refine ⟨hgo, fun h => ?_⟩
                            rw [hkey2 d hc4] at h
                            rw [h] at c16
                            exact absurd rfl c16
                        refine WX.join (lq) (by (repeat' (first | exact envSub.nil | refine envSub.cons ?_ ?_)) <;> first | rfl | (refine congrArg some ?_; refine congrArg (Value.int _) ?_; first | omega | (dsimp only; omega)) | (simp; done) | (refine congrArg some ?_; dsimp only; congr 1; omega) | (simp; omega)) ⟨M.sel (by first | ((repeat (first | with_reducible exact Sel.refl | with_reducible exact Sel.nil | with_reducible exact Del.here | with_reducible apply Del.there | with_reducible apply Sel.cons | with_reducible apply Sel.drop)); done) | (repeat (first | exact Sel.refl | exact Sel.nil | exact Del.here | apply Del.there | apply Sel.cons | apply Sel.drop))), ⟨hlq, q1, fun d hd => hg2 d (by omega)⟩⟩
                    clear M; rintro (lr) w ⟨M, ⟨hlr, hr1, hr2⟩⟩; dsimp only at M hlr hr1 hr2 ⊢
                    refine W.sub [(0, _), (3, _), (4, _), (6, _), (7, _), (8, _), (15, _), (16, _)] (.cons rfl (.cons rfl (.cons rfl (.cons rfl (.cons rfl (.cons rfl (.cons rfl (.cons rfl .nil)))))))) ?_
                    refine W.seq ?_
                    refine W.region ?_
                    refine WL.move rfl rfl ?_
                    refine WL.idxArrR Try.underlying41 Try.sizeOf4 rfl rfl (by omega) (by omega) (by first | exact rfl | exact (Int.toNat_of_nonneg (by omega)).symm) rfl ?_
                    refine WL.load Try.isAgg4 rfl (M.boolAt (by first | ((repeat (first | with_reducible exact Has.here | with_reducible refine Has.there ?_)); done) | (repeat (first | exact Has.here | refine Has.there ?_))) (by omega)) rfl ?_
                    refine WL.moveIfB rfl rfl (fun c17 => ?_) (fun c17 => ?_)
                    · have hone := F.lostOne (n : Int) hc4 ((hr1 c (Nat.lt_succ_self c)).1 c17)
                      rw [hkey c hc4] at hone
                      unfold PlX.key at hone
                      dsimp only at hone
                      refine WL.on rfl rfl ?_
                      refine WL.move rfl rfl ?_
                      refine WL.on rfl rfl ?_
                      refine WL.move rfl rfl ?_
                      refine WL.on rfl rfl ?_
                      refine WL.idxA Try.underlying28 Try.sizeOf36 rfl rfl (RdL.isSome (E := placeE) (by first | with_reducible assumption | with_reducible exact RdL.mem (by with_reducible assumption) M | exact M.rdL (by first | ((repeat (first | with_reducible exact Has.here | with_reducible refine Has.there ?_)); done) | (repeat (first | exact Has.here | refine Has.there ?_))) | exact RdLH.at (by assumption) (M.sel (by first | ((repeat (first | with_reducible exact Sel.refl | with_reducible exact Sel.nil | with_reducible exact Del.here | with_reducible apply Del.there | with_reducible apply Sel.cons | with_reducible apply Sel.drop)); done) | (repeat (first | exact Sel.refl | exact Sel.nil | exact Del.here | apply Del.there | apply Sel.cons | apply Sel.drop)))) | exact RdL.nil _ _ _) (by omega)) (by omega) (by omega) (by first | exact rfl | exact (Int.toNat_of_nonneg (by omega)).symm) rfl ?_
                      refine WL.on rfl rfl ?_
                      refine WL.fieldA (off := 1) Try.underlying36 rfl rfl Try.sizeOf34 rfl rfl rfl ?_
                      refine WL.on rfl rfl ?_
                      refine WL.loadE (E := placeE) Try.isAgg34 rfl (by first | with_reducible assumption | with_reducible exact RdL.mem (by with_reducible assumption) M | exact M.rdL (by first | ((repeat (first | with_reducible exact Has.here | with_reducible refine Has.there ?_)); done) | (repeat (first | exact Has.here | refine Has.there ?_))) | exact RdLH.at (by assumption) (M.sel (by first | ((repeat (first | with_reducible exact Sel.refl | with_reducible exact Sel.nil | with_reducible exact Del.here | with_reducible apply Del.there | with_reducible apply Sel.cons | with_reducible apply Sel.drop)); done) | (repeat (first | exact Sel.refl | exact Sel.nil | exact Del.here | apply Del.there | apply Sel.cons | apply Sel.drop)))) | exact RdL.nil _ _ _) (by omega) rfl rfl ?_
                      refine WL.on rfl rfl ?_
                      refine WL.len Try.underlying34 rfl rfl ?_
                      refine WL.on rfl rfl ?_
                      refine WL.gtr rfl rfl rfl ?_
                      refine WL.pickT rfl rfl rfl ?_
                      refine WL.nil ?_
                      refine WX.next ?_
                      refine W.sub [(0, _), (3, _), (4, _), (6, _), (7, _), (8, _), (15, _), (16, _), (222, _)] (.cons rfl (.cons rfl (.cons rfl (.cons rfl (.cons rfl (.cons rfl (.cons rfl (.cons rfl (.cons rfl .nil))))))))) ?_
                      refine W.ite rfl (fun c18 => ?_) (fun c18 => ?_)
                      · exact absurd c18 (by first | omega | simp)
                      · refine W.skip ?_
                        refine WX.blockNormal ?_
                        refine WX.next ?_
                        refine W.region ?_
                        refine WL.move rfl rfl ?_
                        refine WL.add rfl rfl (by first | exact wI64 (by omega) | rfl) rfl ?_
                        refine WL.assign rfl rfl ?_
                        refine WL.nil ?_
                        refine WX.round ((c + 1, lr)) (by (repeat' (first | exact envSub.nil | refine envSub.cons ?_ ?_)) <;> first | rfl | (refine congrArg some ?_; refine congrArg (Value.int _) ?_; first | omega | (dsimp only; omega)) | (simp; done) | (refine congrArg some ?_; dsimp only; congr 1; omega) | (simp; omega)) ⟨M.sel (by first | ((repeat (first | with_reducible exact Sel.refl | with_reducible exact Sel.nil | with_reducible exact Del.here | with_reducible apply Del.there | with_reducible apply Sel.cons | with_reducible apply Sel.drop)); done) | (repeat (first | exact Sel.refl | exact Sel.nil | exact Del.here | apply Del.there | apply Sel.cons | apply Sel.drop))), ⟨by dsimp only; omega, hlr, hr1, hr2⟩⟩ (by first | omega | (dsimp only; omega))
                    · refine WL.off rfl rfl rfl rfl ?_
                      refine WL.off rfl rfl rfl rfl ?_
                      refine WL.off rfl rfl rfl rfl ?_
                      refine WL.off rfl rfl rfl rfl ?_
                      refine WL.off rfl rfl rfl rfl ?_
                      refine WL.off rfl rfl rfl rfl ?_
                      refine WL.off rfl rfl rfl rfl ?_
                      refine WL.pickF rfl rfl rfl ?_
                      refine WL.nil ?_
                      refine WX.next ?_
                      refine W.sub [(0, _), (3, _), (4, _), (6, _), (7, _), (8, _), (15, _), (16, _), (222, _)] (.cons rfl (.cons rfl (.cons rfl (.cons rfl (.cons rfl (.cons rfl (.cons rfl (.cons rfl (.cons rfl .nil))))))))) ?_
                      refine W.condF rfl ?_
                      refine W.skip ?_
                      refine WX.blockNormal ?_
                      refine WX.next ?_
                      refine W.region ?_
                      refine WL.move rfl rfl ?_
                      refine WL.add rfl rfl (by first | exact wI64 (by omega) | rfl) rfl ?_
                      refine WL.assign rfl rfl ?_
                      refine WL.nil ?_
                      refine WX.round ((c + 1, lr)) (by (repeat' (first | exact envSub.nil | refine envSub.cons ?_ ?_)) <;> first | rfl | (refine congrArg some ?_; refine congrArg (Value.int _) ?_; first | omega | (dsimp only; omega)) | (simp; done) | (refine congrArg some ?_; dsimp only; congr 1; omega) | (simp; omega)) ⟨M.sel (by first | ((repeat (first | with_reducible exact Sel.refl | with_reducible exact Sel.nil | with_reducible exact Del.here | with_reducible apply Del.there | with_reducible apply Sel.cons | with_reducible apply Sel.drop)); done) | (repeat (first | exact Sel.refl | exact Sel.nil | exact Del.here | apply Del.there | apply Sel.cons | apply Sel.drop))), ⟨by dsimp only; omega, hlr, hr1, hr2⟩⟩ (by first | omega | (dsimp only; omega))
                  · obtain rfl : c = 4 := by omega
                    have hF2 := F.goneNow hn5 hlq hg1
                    rw [← hk2] at hF2
                    refine W.exit ?_
                    refine WX.thenExit ?_
                    refine WX.thenExit ?_
                    refine WX.blockHere ?_
                    refine WX.blockNormal ?_
                    refine WX.join ((upGone up n, (A2, cap2, ps2), cpGone cp n, want, lq)) (by (repeat' (first | exact envSub.nil | refine envSub.cons ?_ ?_)) <;> first | rfl | (refine congrArg some ?_; refine congrArg (Value.int _) ?_; first | omega | (dsimp only; omega)) | (simp; done) | (refine congrArg some ?_; dsimp only; congr 1; omega) | (simp; omega)) ⟨M.sel (by first | ((repeat (first | with_reducible exact Sel.refl | with_reducible exact Sel.nil | with_reducible exact Del.here | with_reducible apply Del.there | with_reducible apply Sel.cons | with_reducible apply Sel.drop)); done) | (repeat (first | exact Sel.refl | exact Sel.nil | exact Del.here | apply Del.there | apply Sel.cons | apply Sel.drop))), hF2⟩
                · refine W.seq ?_
                  refine W.region ?_
                  refine WL.eqI rfl rfl rfl ?_
                  refine WL.assign rfl rfl ?_
                  refine WL.nil ?_
                  refine WX.next ?_
                  refine W.sub [(0, _), (3, _), (4, _), (6, _), (7, _), (8, _), (10, _), (223, _)] (.cons rfl (.cons rfl (.cons rfl (.cons rfl (.cons rfl (.cons rfl (.cons rfl (.cons rfl .nil)))))))) ?_
                  refine W.ite rfl (fun c19 => ?_) (fun c19 => ?_)
                  · refine W.region ?_
                    refine WL.move rfl rfl ?_
                    refine WL.move rfl rfl ?_
                    refine WL.nilCheck rfl rfl ?_
                    refine WL.fieldR (off := 0) Try.underlying33 rfl rfl Try.sizeOf27 rfl rfl rfl ?_
                    refine WL.loadR Try.isAgg27 rfl M (by first | ((repeat (first | with_reducible exact Has.here | with_reducible refine Has.there ?_)); done) | (repeat (first | exact Has.here | refine Has.there ?_))) rfl rfl ?_
                    refine WL.move rfl rfl ?_
                    refine WL.conv Try.underlying3 Try.underlying44 rfl (by first | exact wU64 (by omega) | exact mU64 _ | rfl) rfl ?_
                    refine WL.shl rfl rfl (by omega) (by show _ ≤ (32 : Int); omega) rfl rfl ?_
                    refine WL.bor rfl rfl (bit_set up n (by omega) (by omega)) rfl ?_
                    refine WL.nilCheck rfl rfl ?_
                    refine WL.fieldR (off := 0) Try.underlying33 rfl rfl Try.sizeOf27 rfl rfl rfl ?_
                    refine WL.storeR Try.sizeOf27 rfl rfl rfl M (by first | ((repeat (first | with_reducible exact Has.here | with_reducible refine Has.there ?_)); done) | (repeat (first | exact Has.here | refine Has.there ?_))) (by repeat (first | exact SetAt.zero | apply SetAt.succ)) (by first | ((repeat (first | with_reducible exact Upd.here | with_reducible apply Upd.there)); done) | (repeat (first | exact Upd.here | apply Upd.there))) ?_
                    intro w M
                    refine WL.nil ?_
                    refine WX.blockNormal ?_
                    refine WX.join ((up ||| 2 ^ n, (A, cap, ps), cp, want, lost)) (by (repeat' (first | exact envSub.nil | refine envSub.cons ?_ ?_)) <;> first | rfl | (refine congrArg some ?_; refine congrArg (Value.int _) ?_; first | omega | (dsimp only; omega)) | (simp; done) | (refine congrArg some ?_; dsimp only; congr 1; omega) | (simp; omega)) ⟨M.sel (by first | ((repeat (first | with_reducible exact Sel.refl | with_reducible exact Sel.nil | with_reducible exact Del.here | with_reducible apply Del.there | with_reducible apply Sel.cons | with_reducible apply Sel.drop)); done) | (repeat (first | exact Sel.refl | exact Sel.nil | exact Del.here | apply Del.there | apply Sel.cons | apply Sel.drop))), (F.come hn5)⟩
                  · refine W.seq ?_
                    refine W.seq ?_
                    refine W.region ?_
                    refine WL.move rfl rfl ?_
                    refine WL.call Try.call8 rfl (heals_ok F w0 w _ _ M (by first | ((repeat (first | with_reducible exact Del.here | with_reducible apply Del.there)); done) | (repeat (first | exact Del.here | apply Del.there))) (fun w M => M.rdP (by first | ((repeat (first | with_reducible exact Has.here | with_reducible refine Has.there ?_)); done) | (repeat (first | exact Has.here | refine Has.there ?_))) (by first | ((repeat (first | with_reducible exact Has.here | with_reducible refine Has.there ?_)); done) | (repeat (first | exact Has.here | refine Has.there ?_))))) rfl ?_
                    rintro _ w ⟨rfl, A2, cap2, ps2, cp2, F2, hfull, M⟩
                    have hpl2 : ps2.length = 4 := by have := F2.pl; simpa using this
                    have hlol2 := F2.ll
                    have hkey2 : ∀ c, c < 4 → el (ps2.map PlX.key) c = (el ps2 c).key := fun c hc => el_key (by omega)
                    have hnl2 : ∀ p ∈ ps2, p.nodes.length ≤ 5 := fun p hp => F2.formed.len p.key (List.mem_map.2 ⟨p, hp, rfl⟩)
                    refine WL.not rfl rfl ?_
                    refine WL.nil ?_
                    refine WX.next ?_
                    refine W.sub [(0, _), (3, _), (4, _), (6, _), (7, _), (8, _), (78, _)] (.cons rfl (.cons rfl (.cons rfl (.cons rfl (.cons rfl (.cons rfl (.cons rfl .nil))))))) ?_
                    refine W.cond rfl (fun c20 => ?_) (fun c20 => ?_)
                    · (try simp only [Bool.not_eq_true'] at c20); (try simp only [Bool.not_eq_false'] at c20); (try simp only [decide_eq_true_eq] at c20); (try simp only [decide_eq_false_iff_not] at c20)
                      exact absurd c20 (by simp)
                    · (try simp only [Bool.not_eq_true'] at c20); (try simp only [Bool.not_eq_false'] at c20); (try simp only [decide_eq_true_eq] at c20); (try simp only [decide_eq_false_iff_not] at c20)
                      refine W.skip ?_
                      refine WX.next ?_
                      refine W.seq ?_
                      refine W.region ?_
                      refine WL.assign rfl rfl ?_
                      refine WL.nil ?_
                      refine WX.next ?_
                      refine W.sub [(0, _), (3, _), (4, _), (6, _), (7, _), (8, _), (17, _)] (.cons rfl (.cons rfl (.cons rfl (.cons rfl (.cons rfl (.cons rfl (.cons rfl .nil))))))) ?_
                      refine W.block ?_
                      refine W.loop (ι := Nat) (fun z => [(0, .slice As l.length cs), (3, .pointer (some ⟨g1_1, 0, none⟩)), (4, .pointer (some ⟨g2_1, 0, none⟩)), (6, .pointer (some ⟨g9_0, 0, none⟩)), (7, .pointer (some ⟨g10_0, 0, none⟩)), (8, .int .i64 (i : Int)), (17, .int .i64 (z : Int))]) (fun zz w => Mem w0 w ((fun z => [Asr.row g1_1 25 [.int .u64 24, .int .i64 6, .int .i64 2, .int .i64 3], Asr.row g2_1 33 (.int .u32 (up : Int) :: .slice A2 ps2.length cap2 :: bs cp2), Asr.lst placeE A2 cap2 ps2, Asr.star (ps2.map PlX.O), Asr.row g9_0 40 (bs want), Asr.row g10_0 41 (lost.map .bool)]) zz) ∧ (fun z => z ≤ 4) zz) (fun z => 4 - z) (0) (by (repeat' (first | exact envSub.nil | refine envSub.cons ?_ ?_)) <;> first | rfl | (refine congrArg some ?_; refine congrArg (Value.int _) ?_; first | omega | (dsimp only; omega)) | (simp; done) | (refine congrArg some ?_; dsimp only; congr 1; omega) | (simp; omega)) ⟨M.sel (by first | ((repeat (first | with_reducible exact Sel.refl | with_reducible exact Sel.nil | with_reducible exact Del.here | with_reducible apply Del.there | with_reducible apply Sel.cons | with_reducible apply Sel.drop)); done) | (repeat (first | exact Sel.refl | exact Sel.nil | exact Del.here | apply Del.there | apply Sel.cons | apply Sel.drop))), Nat.zero_le _⟩ ?_
                      clear M; rintro (c) w ⟨M, hc⟩; dsimp only at M hc ⊢
                      refine W.sub [(0, _), (3, _), (4, _), (6, _), (7, _), (8, _), (17, _)] (.cons rfl (.cons rfl (.cons rfl (.cons rfl (.cons rfl (.cons rfl (.cons rfl .nil))))))) ?_
                      refine W.seq ?_
                      refine W.seq ?_
                      refine W.region ?_
                      refine WL.move rfl rfl ?_
                      refine WL.lss rfl rfl rfl ?_
                      refine WL.nil ?_
                      refine WX.next ?_
                      refine W.sub [(0, _), (3, _), (4, _), (6, _), (7, _), (8, _), (17, _), (80, _)] (.cons rfl (.cons rfl (.cons rfl (.cons rfl (.cons rfl (.cons rfl (.cons rfl (.cons rfl .nil)))))))) ?_
                      refine W.ite rfl (fun c21 => ?_) (fun c21 => ?_)
                      · have hc4 : c < 4 := by omega
                        have hsub : IntKind.u32.wrap ((up : Int) - 1) = (((up + 4294967295) % 4294967296 : Nat) : Int) := by rw [mU32]; omega
                        have hnl3 := hnl2 _ (el_mem (show c < ps2.length by omega))
                        refine W.skip ?_
                        refine WX.next ?_
                        refine W.seq ?_
                        refine W.block ?_
                        refine W.seq ?_
                        refine W.drawM ([Asr.row g2_1 33 (.int .u32 (up : Int) :: .slice A2 ps2.length cap2 :: bs cp2), Asr.lst placeE A2 cap2 ps2, Asr.row g10_0 41 (lost.map .bool)]) (by kernel_rfl) (fun j => [5, 6, 7, 8, 9, 10, 11, 12, 13, 22].contains j) M (by first | ((repeat (first | with_reducible exact Sel.refl | with_reducible exact Sel.nil | with_reducible exact Del.here | with_reducible apply Del.there | with_reducible apply Sel.cons | with_reducible apply Sel.drop)); done) | (repeat (first | exact Sel.refl | exact Sel.nil | exact Del.here | apply Del.there | apply Sel.cons | apply Sel.drop))) ?_
                        clear M; intro M
                        apply DG.pure_ [0, 1] 27 rfl (by kernel_rfl) (by kernel_rfl)
                        · intro w
                          refine WL.move rfl rfl ?_
                          refine WL.idxArrR Try.underlying41 Try.sizeOf4 rfl rfl (by omega) (by omega) (by first | exact rfl | exact (Int.toNat_of_nonneg (by omega)).symm) rfl ?_
                          exact Chain.end_ rfl
                        apply DG.take [2, 3] 25 rfl (by kernel_rfl) (by kernel_rfl) (M.sel (by first | ((repeat (first | with_reducible exact Sel.refl | with_reducible exact Sel.nil | with_reducible exact Del.here | with_reducible apply Del.there | with_reducible apply Sel.cons | with_reducible apply Sel.drop)); done) | (repeat (first | exact Sel.refl | exact Sel.nil | exact Del.here | apply Del.there | apply Sel.cons | apply Sel.drop))))
                        · intro w M
                          refine WL.load Try.isAgg4 rfl (M.boolAt (by first | ((repeat (first | with_reducible exact Has.here | with_reducible refine Has.there ?_)); done) | (repeat (first | exact Has.here | refine Has.there ?_))) (by omega)) rfl ?_
                          refine WL.not rfl rfl ?_
                          exact Chain.end_ rfl
                        refine DG.know (t := 86) rfl (fun c22 => ?_) (fun c22 => ?_)
                        · (try simp only [Bool.not_eq_true'] at c22); (try simp only [Bool.not_eq_false'] at c22); (try simp only [decide_eq_true_eq] at c22); (try simp only [decide_eq_false_iff_not] at c22)
                          apply DG.pure_ [4] 24 rfl (by kernel_rfl) (by kernel_rfl)
                          · intro w
                            refine WL.move rfl rfl ?_
                            exact Chain.end_ rfl
                          apply DG.take [5, 6, 7, 8, 9, 10, 11, 12, 13, 14, 15, 16] 12 rfl (by kernel_rfl) (by kernel_rfl) (M.sel (by first | ((repeat (first | with_reducible exact Sel.refl | with_reducible exact Sel.nil | with_reducible exact Del.here | with_reducible apply Del.there | with_reducible apply Sel.cons | with_reducible apply Sel.drop)); done) | (repeat (first | exact Sel.refl | exact Sel.nil | exact Del.here | apply Del.there | apply Sel.cons | apply Sel.drop))))
                          · intro w M
                            refine WL.on rfl rfl ?_
                            refine WL.move rfl rfl ?_
                            refine WL.on rfl rfl ?_
                            refine WL.nilCheck rfl rfl ?_
                            refine WL.on rfl rfl ?_
                            refine WL.fieldR (off := 0) Try.underlying33 rfl rfl Try.sizeOf27 rfl rfl rfl ?_
                            refine WL.on rfl rfl ?_
                            refine WL.loadR Try.isAgg27 rfl M (by first | ((repeat (first | with_reducible exact Has.here | with_reducible refine Has.there ?_)); done) | (repeat (first | exact Has.here | refine Has.there ?_))) rfl rfl ?_
                            refine WL.on rfl rfl ?_
                            refine WL.move rfl rfl ?_
                            refine WL.on rfl rfl ?_
                            refine WL.nilCheck rfl rfl ?_
                            refine WL.on rfl rfl ?_
                            refine WL.fieldR (off := 0) Try.underlying33 rfl rfl Try.sizeOf27 rfl rfl rfl ?_
                            refine WL.on rfl rfl ?_
                            refine WL.loadR Try.isAgg27 rfl M (by first | ((repeat (first | with_reducible exact Has.here | with_reducible refine Has.there ?_)); done) | (repeat (first | exact Has.here | refine Has.there ?_))) rfl rfl ?_
                            refine WL.on rfl rfl ?_
                            refine WL.sub' rfl rfl hsub rfl ?_
                            refine WL.on rfl rfl ?_
                            refine WL.band rfl rfl (andU32 up _ (by omega) (Nat.mod_lt _ (by omega))) rfl ?_
                            refine WL.on rfl rfl ?_
                            refine WL.neI rfl rfl rfl ?_
                            refine WL.pickT rfl rfl rfl ?_
                            exact Chain.end_ rfl
                          refine DG.knowP (t := 99) rfl (fun c23 => ?_) (fun c23 => ?_)
                          · apply DG.pure_ [17, 18, 19, 20] 8 rfl (by kernel_rfl) (by kernel_rfl)
                            · intro w
                              refine WL.move rfl rfl ?_
                              refine WL.on rfl rfl ?_
                              refine WL.move rfl rfl ?_
                              refine WL.on rfl rfl ?_
                              refine WL.nilCheck rfl rfl ?_
                              refine WL.on rfl rfl ?_
                              refine WL.fieldR (off := 1) Try.underlying33 rfl rfl Try.sizeOf28 rfl rfl rfl ?_
                              exact Chain.end_ rfl
                            apply DG.take [21, 22, 23, 24, 25, 26, 27, 28] 0 rfl (by kernel_rfl) (by kernel_rfl) (M.sel (by first | ((repeat (first | with_reducible exact Sel.refl | with_reducible exact Sel.nil | with_reducible exact Del.here | with_reducible apply Del.there | with_reducible apply Sel.cons | with_reducible apply Sel.drop)); done) | (repeat (first | exact Sel.refl | exact Sel.nil | exact Del.here | apply Del.there | apply Sel.cons | apply Sel.drop))))
                            · intro w M
                              refine WL.on rfl rfl ?_
                              refine WL.loadR Try.isAgg28 rfl M (by first | ((repeat (first | with_reducible exact Has.here | with_reducible refine Has.there ?_)); done) | (repeat (first | exact Has.here | refine Has.there ?_))) rfl rfl ?_
                              refine WL.on rfl rfl ?_
                              refine WL.move rfl rfl ?_
                              refine WL.on rfl rfl ?_
                              refine WL.idxA Try.underlying28 Try.sizeOf36 rfl rfl (RdL.isSome (E := placeE) (by first | with_reducible assumption | with_reducible exact RdL.mem (by with_reducible assumption) M | exact M.rdL (by first | ((repeat (first | with_reducible exact Has.here | with_reducible refine Has.there ?_)); done) | (repeat (first | exact Has.here | refine Has.there ?_))) | exact RdLH.at (by assumption) (M.sel (by first | ((repeat (first | with_reducible exact Sel.refl | with_reducible exact Sel.nil | with_reducible exact Del.here | with_reducible apply Del.there | with_reducible apply Sel.cons | with_reducible apply Sel.drop)); done) | (repeat (first | exact Sel.refl | exact Sel.nil | exact Del.here | apply Del.there | apply Sel.cons | apply Sel.drop)))) | exact RdL.nil _ _ _) (by omega)) (by omega) (by omega) (by first | exact rfl | exact (Int.toNat_of_nonneg (by omega)).symm) rfl ?_
                              refine WL.on rfl rfl ?_
                              refine WL.fieldA (off := 1) Try.underlying36 rfl rfl Try.sizeOf34 rfl rfl rfl ?_
                              refine WL.on rfl rfl ?_
                              refine WL.loadE (E := placeE) Try.isAgg34 rfl (by first | with_reducible assumption | with_reducible exact RdL.mem (by with_reducible assumption) M | exact M.rdL (by first | ((repeat (first | with_reducible exact Has.here | with_reducible refine Has.there ?_)); done) | (repeat (first | exact Has.here | refine Has.there ?_))) | exact RdLH.at (by assumption) (M.sel (by first | ((repeat (first | with_reducible exact Sel.refl | with_reducible exact Sel.nil | with_reducible exact Del.here | with_reducible apply Del.there | with_reducible apply Sel.cons | with_reducible apply Sel.drop)); done) | (repeat (first | exact Sel.refl | exact Sel.nil | exact Del.here | apply Del.there | apply Sel.cons | apply Sel.drop)))) | exact RdL.nil _ _ _) (by omega) rfl rfl ?_
                              refine WL.on rfl rfl ?_
                              refine WL.len Try.underlying34 rfl rfl ?_
                              refine WL.on rfl rfl ?_
                              refine WL.lss rfl rfl rfl ?_
                              refine WL.pickT rfl rfl rfl ?_
                              exact Chain.end_ rfl
                            refine DG.end_ (by kernel_rfl) ?_
                            refine WX.next ?_
                            refine W.sub [(0, _), (3, _), (4, _), (6, _), (7, _), (8, _), (17, _), (111, _)] (.cons rfl (.cons rfl (.cons rfl (.cons rfl (.cons rfl (.cons rfl (.cons rfl (.cons rfl .nil)))))))) ?_
                            refine W.ite rfl (fun c24 => ?_) (fun c24 => ?_)
                            · exact absurd (F2.healed hfull (by omega) hc4 c22) (by rw [hkey2 c hc4]; unfold PlX.key; dsimp only; omega)
                            · refine W.skip ?_
                              refine WX.blockNormal ?_
                              refine WX.next ?_
                              refine W.region ?_
                              refine WL.move rfl rfl ?_
                              refine WL.add rfl rfl (by first | exact wI64 (by omega) | rfl) rfl ?_
                              refine WL.assign rfl rfl ?_
                              refine WL.nil ?_
                              refine WX.round (c + 1) (by (repeat' (first | exact envSub.nil | refine envSub.cons ?_ ?_)) <;> first | rfl | (refine congrArg some ?_; refine congrArg (Value.int _) ?_; first | omega | (dsimp only; omega)) | (simp; done) | (refine congrArg some ?_; dsimp only; congr 1; omega) | (simp; omega)) ⟨M.sel (by first | ((repeat (first | with_reducible exact Sel.refl | with_reducible exact Sel.nil | with_reducible exact Del.here | with_reducible apply Del.there | with_reducible apply Sel.cons | with_reducible apply Sel.drop)); done) | (repeat (first | exact Sel.refl | exact Sel.nil | exact Del.here | apply Del.there | apply Sel.cons | apply Sel.drop))), (by omega)⟩ (by first | omega | (dsimp only; omega))
                          · apply DG.pure_ [17, 18, 19, 20] 8 rfl (by kernel_rfl) (by kernel_rfl)
                            · intro w
                              refine WL.move rfl rfl ?_
                              refine WL.off rfl rfl rfl rfl ?_
                              refine WL.off rfl rfl rfl rfl ?_
                              refine WL.off rfl rfl rfl rfl ?_
                              exact Chain.end_ rfl
                            apply DG.pure_ [21] 7 rfl (by kernel_rfl) (by kernel_rfl)
                            · intro w
                              refine WL.off rfl rfl rfl rfl ?_
                              exact Chain.end_ rfl
                            apply DG.take [22, 23, 24, 25, 26, 27, 28] 0 rfl (by kernel_rfl) (by kernel_rfl) (M.sel (by first | ((repeat (first | with_reducible exact Sel.refl | with_reducible exact Sel.nil | with_reducible exact Del.here | with_reducible apply Del.there | with_reducible apply Sel.cons | with_reducible apply Sel.drop)); done) | (repeat (first | exact Sel.refl | exact Sel.nil | exact Del.here | apply Del.there | apply Sel.cons | apply Sel.drop))))
                            · intro w M
                              refine WL.off rfl rfl rfl rfl ?_
                              refine WL.off rfl rfl rfl rfl ?_
                              refine WL.off rfl rfl rfl rfl ?_
                              refine WL.off rfl rfl rfl rfl ?_
                              refine WL.off rfl rfl rfl rfl ?_
                              refine WL.off rfl rfl rfl rfl ?_
                              refine WL.pickF rfl rfl rfl ?_
                              exact Chain.end_ rfl
                            refine DG.end_ (by kernel_rfl) ?_
                            refine WX.next ?_
                            refine W.sub [(0, _), (3, _), (4, _), (6, _), (7, _), (8, _), (17, _), (111, _)] (.cons rfl (.cons rfl (.cons rfl (.cons rfl (.cons rfl (.cons rfl (.cons rfl (.cons rfl .nil)))))))) ?_
                            refine W.condF rfl ?_
                            refine W.skip ?_
                            refine WX.blockNormal ?_
                            refine WX.next ?_
                            refine W.region ?_
                            refine WL.move rfl rfl ?_
                            refine WL.add rfl rfl (by first | exact wI64 (by omega) | rfl) rfl ?_
                            refine WL.assign rfl rfl ?_
                            refine WL.nil ?_
                            refine WX.round (c + 1) (by (repeat' (first | exact envSub.nil | refine envSub.cons ?_ ?_)) <;> first | rfl | (refine congrArg some ?_; refine congrArg (Value.int _) ?_; first | omega | (dsimp only; omega)) | (simp; done) | (refine congrArg some ?_; dsimp only; congr 1; omega) | (simp; omega)) ⟨M.sel (by first | ((repeat (first | with_reducible exact Sel.refl | with_reducible exact Sel.nil | with_reducible exact Del.here | with_reducible apply Del.there | with_reducible apply Sel.cons | with_reducible apply Sel.drop)); done) | (repeat (first | exact Sel.refl | exact Sel.nil | exact Del.here | apply Del.there | apply Sel.cons | apply Sel.drop))), (by omega)⟩ (by first | omega | (dsimp only; omega))
                        · (try simp only [Bool.not_eq_true'] at c22); (try simp only [Bool.not_eq_false'] at c22); (try simp only [decide_eq_true_eq] at c22); (try simp only [decide_eq_false_iff_not] at c22)
                          apply DG.pure_ [4] 24 rfl (by kernel_rfl) (by kernel_rfl)
                          · intro w
                            refine WL.move rfl rfl ?_
                            exact Chain.end_ rfl
                          apply DG.take [5, 6, 7, 8, 9, 10, 11, 12, 13, 14, 15, 16] 12 rfl (by kernel_rfl) (by kernel_rfl) (M.sel (by first | ((repeat (first | with_reducible exact Sel.refl | with_reducible exact Sel.nil | with_reducible exact Del.here | with_reducible apply Del.there | with_reducible apply Sel.cons | with_reducible apply Sel.drop)); done) | (repeat (first | exact Sel.refl | exact Sel.nil | exact Del.here | apply Del.there | apply Sel.cons | apply Sel.drop))))
                          · intro w M
                            refine WL.off rfl rfl rfl rfl ?_
                            refine WL.off rfl rfl rfl rfl ?_
                            refine WL.off rfl rfl rfl rfl ?_
                            refine WL.off rfl rfl rfl rfl ?_
                            refine WL.off rfl rfl rfl rfl ?_
                            refine WL.off rfl rfl rfl rfl ?_
                            refine WL.off rfl rfl rfl rfl ?_
                            refine WL.off rfl rfl rfl rfl ?_
                            refine WL.off rfl rfl rfl rfl ?_
                            refine WL.off rfl rfl rfl rfl ?_
                            refine WL.off rfl rfl rfl rfl ?_
                            refine WL.pickF rfl rfl rfl ?_
                            exact Chain.end_ rfl
                          apply DG.pure_ [17, 18, 19, 20] 8 rfl (by kernel_rfl) (by kernel_rfl)
                          · intro w
                            refine WL.move rfl rfl ?_
                            refine WL.off rfl rfl rfl rfl ?_
                            refine WL.off rfl rfl rfl rfl ?_
                            refine WL.off rfl rfl rfl rfl ?_
                            exact Chain.end_ rfl
                          apply DG.pure_ [21] 7 rfl (by kernel_rfl) (by kernel_rfl)
                          · intro w
                            refine WL.off rfl rfl rfl rfl ?_
                            exact Chain.end_ rfl
                          apply DG.take [22, 23, 24, 25, 26, 27, 28] 0 rfl (by kernel_rfl) (by kernel_rfl) (M.sel (by first | ((repeat (first | with_reducible exact Sel.refl | with_reducible exact Sel.nil | with_reducible exact Del.here | with_reducible apply Del.there | with_reducible apply Sel.cons | with_reducible apply Sel.drop)); done) | (repeat (first | exact Sel.refl | exact Sel.nil | exact Del.here | apply Del.there | apply Sel.cons | apply Sel.drop))))
                          · intro w M
                            refine WL.off rfl rfl rfl rfl ?_
                            refine WL.off rfl rfl rfl rfl ?_
                            refine WL.off rfl rfl rfl rfl ?_
                            refine WL.off rfl rfl rfl rfl ?_
                            refine WL.off rfl rfl rfl rfl ?_
                            refine WL.off rfl rfl rfl rfl ?_
                            refine WL.pickF rfl rfl rfl ?_
                            exact Chain.end_ rfl
                          refine DG.end_ (by kernel_rfl) ?_
                          refine WX.next ?_
                          refine W.sub [(0, _), (3, _), (4, _), (6, _), (7, _), (8, _), (17, _), (111, _)] (.cons rfl (.cons rfl (.cons rfl (.cons rfl (.cons rfl (.cons rfl (.cons rfl (.cons rfl .nil)))))))) ?_
                          refine W.condF rfl ?_
                          refine W.skip ?_
                          refine WX.blockNormal ?_
                          refine WX.next ?_
                          refine W.region ?_
                          refine WL.move rfl rfl ?_
                          refine WL.add rfl rfl (by first | exact wI64 (by omega) | rfl) rfl ?_
                          refine WL.assign rfl rfl ?_
                          refine WL.nil ?_
                          refine WX.round (c + 1) (by (repeat' (first | exact envSub.nil | refine envSub.cons ?_ ?_)) <;> first | rfl | (refine congrArg some ?_; refine congrArg (Value.int _) ?_; first | omega | (dsimp only; omega)) | (simp; done) | (refine congrArg some ?_; dsimp only; congr 1; omega) | (simp; omega)) ⟨M.sel (by first | ((repeat (first | with_reducible exact Sel.refl | with_reducible exact Sel.nil | with_reducible exact Del.here | with_reducible apply Del.there | with_reducible apply Sel.cons | with_reducible apply Sel.drop)); done) | (repeat (first | exact Sel.refl | exact Sel.nil | exact Del.here | apply Del.there | apply Sel.cons | apply Sel.drop))), (by omega)⟩ (by first | omega | (dsimp only; omega))
                      · refine W.exit ?_
                        refine WX.thenExit ?_
                        refine WX.thenExit ?_
                        refine WX.blockHere ?_
                        refine WX.blockNormal ?_
                        refine WX.join ((up, (A2, cap2, ps2), cp2, want, lost)) (by (repeat' (first | exact envSub.nil | refine envSub.cons ?_ ?_)) <;> first | rfl | (refine congrArg some ?_; refine congrArg (Value.int _) ?_; first | omega | (dsimp only; omega)) | (simp; done) | (refine congrArg some ?_; dsimp only; congr 1; omega) | (simp; omega)) ⟨M.sel (by first | ((repeat (first | with_reducible exact Sel.refl | with_reducible exact Sel.nil | with_reducible exact Del.here | with_reducible apply Del.there | with_reducible apply Sel.cons | with_reducible apply Sel.drop)); done) | (repeat (first | exact Sel.refl | exact Sel.nil | exact Del.here | apply Del.there | apply Sel.cons | apply Sel.drop))), F2⟩
            clear M; rintro (⟨up, ⟨A, cap, ps⟩, cp, want, lost⟩) w ⟨M, F⟩; dsimp only at M F ⊢
            refine W.sub [(0, _), (3, _), (4, _), (6, _), (7, _), (8, _)] (.cons rfl (.cons rfl (.cons rfl (.cons rfl (.cons rfl (.cons rfl .nil)))))) ?_
            have hpl4 : ps.length = 4 := by have := F.pl; simpa using this
            have hcpl := F.cpl
            have hwl := F.wl
            have hlol := F.ll
            have hkey : ∀ c, c < 4 → el (ps.map PlX.key) c = (el ps c).key := fun c hc => el_key (by omega)
            have hnodes : ∀ c, c < 4 → ∀ x ∈ (el ps c).nodes, 0 ≤ x ∧ x < 5 := fun c hc x hx => by
              have := F.nodes c hc x (by rw [hkey c hc]; exact hx)
              exact ⟨this.1, this.2.1⟩
            have hnl : ∀ p ∈ ps, p.nodes.length ≤ 5 := fun p hp => F.formed.len p.key (List.mem_map.2 ⟨p, hp, rfl⟩)
            refine W.seq ?_
            refine W.region ?_
            refine WL.assign rfl rfl ?_
            refine WL.nil ?_
            refine WX.next ?_
            refine W.sub [(0, _), (3, _), (4, _), (6, _), (7, _), (8, _), (18, _)] (.cons rfl (.cons rfl (.cons rfl (.cons rfl (.cons rfl (.cons rfl (.cons rfl .nil))))))) ?_
            refine W.block ?_
            refine W.loop (ι := Nat) (fun z => [(0, .slice As l.length cs), (3, .pointer (some ⟨g1_1, 0, none⟩)), (4, .pointer (some ⟨g2_1, 0, none⟩)), (6, .pointer (some ⟨g9_0, 0, none⟩)), (7, .pointer (some ⟨g10_0, 0, none⟩)), (8, .int .i64 (i : Int)), (18, .int .u64 (z : Int))]) (fun zz w => Mem w0 w ((fun z => [Asr.row g1_1 25 [.int .u64 24, .int .i64 6, .int .i64 2, .int .i64 3], Asr.row g2_1 33 (.int .u32 (up : Int) :: .slice A ps.length cap :: bs cp), Asr.lst placeE A cap ps, Asr.star (ps.map PlX.O), Asr.row g9_0 40 (bs want), Asr.row g10_0 41 (lost.map .bool)]) zz) ∧ (fun z => z ≤ 24) zz) (fun z => 24 - z) (0) (by (repeat' (first | exact envSub.nil | refine envSub.cons ?_ ?_)) <;> first | rfl | (refine congrArg some ?_; refine congrArg (Value.int _) ?_; first | omega | (dsimp only; omega)) | (simp; done) | (refine congrArg some ?_; dsimp only; congr 1; omega) | (simp; omega)) ⟨M.sel (by first | ((repeat (first | with_reducible exact Sel.refl | with_reducible exact Sel.nil | with_reducible exact Del.here | with_reducible apply Del.there | with_reducible apply Sel.cons | with_reducible apply Sel.drop)); done) | (repeat (first | exact Sel.refl | exact Sel.nil | exact Del.here | apply Del.there | apply Sel.cons | apply Sel.drop))), Nat.zero_le _⟩ ?_
            clear M; rintro (d) w ⟨M, hd⟩; dsimp only at M hd ⊢
            refine W.sub [(0, _), (3, _), (4, _), (6, _), (7, _), (8, _), (18, _)] (.cons rfl (.cons rfl (.cons rfl (.cons rfl (.cons rfl (.cons rfl (.cons rfl .nil))))))) ?_
            refine W.seq ?_
            refine W.seq ?_
            refine W.region ?_
            refine WL.move rfl rfl ?_
            refine WL.lss rfl rfl rfl ?_
            refine WL.nil ?_
            refine WX.next ?_
            refine W.sub [(0, _), (3, _), (4, _), (6, _), (7, _), (8, _), (18, _), (237, _)] (.cons rfl (.cons rfl (.cons rfl (.cons rfl (.cons rfl (.cons rfl (.cons rfl (.cons rfl .nil)))))))) ?_
            refine W.ite rfl (fun c25 => ?_) (fun c25 => ?_)
            · have hd24 : d < 24 := by omega
              have hc4 := cOf_lt hd24
              have ha6 := aOf_lt d
              have hcl : cOf d < ps.length := by omega
              have hnl1 := hnl _ (el_mem hcl)
              refine W.skip ?_
              refine WX.next ?_
              refine W.seq ?_
              refine W.block ?_
              refine W.seq ?_
              refine W.region ?_
              refine WL.loadW Try.isAgg25 Try.sizeOf25 rfl M (by first | ((repeat (first | with_reducible exact Has.here | with_reducible refine Has.there ?_)); done) | (repeat (first | exact Has.here | refine Has.there ?_))) rfl rfl ?_
              refine WL.move rfl rfl ?_
              refine WL.call Try.call6 rfl (Where_ok hd24 _) rfl ?_
              rintro _ w ⟨rfl, m⟩
              replace M := M.call0 m; clear m
              refine WL.move rfl rfl ?_
              refine WL.extractL rfl rfl rfl ?_
              refine WL.extractL rfl rfl rfl ?_
              refine WL.extractL rfl rfl rfl ?_
              refine WL.assign rfl rfl ?_
              refine WL.assign rfl rfl ?_
              refine WL.assign rfl rfl ?_
              refine WL.nil ?_
              refine WX.next ?_
              refine W.sub [(0, _), (3, _), (4, _), (6, _), (7, _), (8, _), (18, _), (19, _), (20, _)] (.cons rfl (.cons rfl (.cons rfl (.cons rfl (.cons rfl (.cons rfl (.cons rfl (.cons rfl (.cons rfl .nil))))))))) ?_
              refine W.seq ?_
              refine W.region ?_
              refine WL.assign rfl rfl ?_
              refine WL.nil ?_
              refine WX.next ?_
              refine W.sub [(0, _), (3, _), (4, _), (6, _), (7, _), (8, _), (18, _), (19, _), (20, _), (22, _)] (.cons rfl (.cons rfl (.cons rfl (.cons rfl (.cons rfl (.cons rfl (.cons rfl (.cons rfl (.cons rfl (.cons rfl .nil)))))))))) ?_
              refine W.block ?_
              refine W.loop (ι := Nat) (fun z => [(0, .slice As l.length cs), (3, .pointer (some ⟨g1_1, 0, none⟩)), (4, .pointer (some ⟨g2_1, 0, none⟩)), (6, .pointer (some ⟨g9_0, 0, none⟩)), (7, .pointer (some ⟨g10_0, 0, none⟩)), (8, .int .i64 (i : Int)), (18, .int .u64 (d : Int)), (19, .int .i64 (cOf d : Int)), (20, .int .i64 (aOf d : Int)), (22, .int .i64 (z : Int))]) (fun zz w => Mem w0 w ((fun z => [Asr.row g1_1 25 [.int .u64 24, .int .i64 6, .int .i64 2, .int .i64 3], Asr.row g2_1 33 (.int .u32 (up : Int) :: .slice A ps.length cap :: bs cp), Asr.lst placeE A cap ps, Asr.star (ps.map PlX.O), Asr.row g9_0 40 (bs want), Asr.row g10_0 41 (lost.map .bool)]) zz) ∧ (fun z => z ≤ (el ps (cOf d)).nodes.length) zz) (fun z => (el ps (cOf d)).nodes.length - z) (0) (by (repeat' (first | exact envSub.nil | refine envSub.cons ?_ ?_)) <;> first | rfl | (refine congrArg some ?_; refine congrArg (Value.int _) ?_; first | omega | (dsimp only; omega)) | (simp; done) | (refine congrArg some ?_; dsimp only; congr 1; omega) | (simp; omega)) ⟨M.sel (by first | ((repeat (first | with_reducible exact Sel.refl | with_reducible exact Sel.nil | with_reducible exact Del.here | with_reducible apply Del.there | with_reducible apply Sel.cons | with_reducible apply Sel.drop)); done) | (repeat (first | exact Sel.refl | exact Sel.nil | exact Del.here | apply Del.there | apply Sel.cons | apply Sel.drop))), Nat.zero_le _⟩ ?_
              clear M; rintro (k) w ⟨M, hk⟩; dsimp only at M hk ⊢
              refine W.sub [(0, _), (3, _), (4, _), (6, _), (7, _), (8, _), (18, _), (19, _), (20, _), (22, _)] (.cons rfl (.cons rfl (.cons rfl (.cons rfl (.cons rfl (.cons rfl (.cons rfl (.cons rfl (.cons rfl (.cons rfl .nil)))))))))) ?_
              refine W.seq ?_
              refine W.seq ?_
              refine W.region ?_
              refine WL.move rfl rfl ?_
              refine WL.move rfl rfl ?_
              refine WL.nilCheck rfl rfl ?_
              refine WL.fieldR (off := 1) Try.underlying33 rfl rfl Try.sizeOf28 rfl rfl rfl ?_
              refine WL.loadR Try.isAgg28 rfl M (by first | ((repeat (first | with_reducible exact Has.here | with_reducible refine Has.there ?_)); done) | (repeat (first | exact Has.here | refine Has.there ?_))) rfl rfl ?_
              refine WL.move rfl rfl ?_
              refine WL.idxA Try.underlying28 Try.sizeOf36 rfl rfl (RdL.isSome (E := placeE) (by first | with_reducible assumption | with_reducible exact RdL.mem (by with_reducible assumption) M | exact M.rdL (by first | ((repeat (first | with_reducible exact Has.here | with_reducible refine Has.there ?_)); done) | (repeat (first | exact Has.here | refine Has.there ?_))) | exact RdLH.at (by assumption) (M.sel (by first | ((repeat (first | with_reducible exact Sel.refl | with_reducible exact Sel.nil | with_reducible exact Del.here | with_reducible apply Del.there | with_reducible apply Sel.cons | with_reducible apply Sel.drop)); done) | (repeat (first | exact Sel.refl | exact Sel.nil | exact Del.here | apply Del.there | apply Sel.cons | apply Sel.drop)))) | exact RdL.nil _ _ _) (by omega)) (by omega) (by omega) (by first | exact rfl | exact (Int.toNat_of_nonneg (by omega)).symm) rfl ?_
              refine WL.fieldA (off := 1) Try.underlying36 rfl rfl Try.sizeOf34 rfl rfl rfl ?_
              refine WL.loadE (E := placeE) Try.isAgg34 rfl (by first | with_reducible assumption | with_reducible exact RdL.mem (by with_reducible assumption) M | exact M.rdL (by first | ((repeat (first | with_reducible exact Has.here | with_reducible refine Has.there ?_)); done) | (repeat (first | exact Has.here | refine Has.there ?_))) | exact RdLH.at (by assumption) (M.sel (by first | ((repeat (first | with_reducible exact Sel.refl | with_reducible exact Sel.nil | with_reducible exact Del.here | with_reducible apply Del.there | with_reducible apply Sel.cons | with_reducible apply Sel.drop)); done) | (repeat (first | exact Sel.refl | exact Sel.nil | exact Del.here | apply Del.there | apply Sel.cons | apply Sel.drop)))) | exact RdL.nil _ _ _) (by omega) rfl rfl ?_
              refine WL.len Try.underlying34 rfl rfl ?_
              refine WL.lss rfl rfl rfl ?_
              refine WL.moveIf rfl rfl (fun c26 => ?_) (fun c26 => ?_)
              · refine WL.on rfl rfl ?_
                refine WL.move rfl rfl ?_
                refine WL.on rfl rfl ?_
                refine WL.idxArrR Try.underlying41 Try.sizeOf4 rfl rfl (by omega) (by omega) (by first | exact rfl | exact (Int.toNat_of_nonneg (by omega)).symm) rfl ?_
                refine WL.on rfl rfl ?_
                refine WL.load Try.isAgg4 rfl (M.boolAt (by first | ((repeat (first | with_reducible exact Has.here | with_reducible refine Has.there ?_)); done) | (repeat (first | exact Has.here | refine Has.there ?_))) (by omega)) rfl ?_
                refine WL.on rfl rfl ?_
                refine WL.not rfl rfl ?_
                refine WL.pickT rfl rfl rfl ?_
                refine WL.nil ?_
                refine WX.next ?_
                refine W.sub [(0, _), (3, _), (4, _), (6, _), (7, _), (8, _), (18, _), (19, _), (20, _), (22, _), (263, _)] (.cons rfl (.cons rfl (.cons rfl (.cons rfl (.cons rfl (.cons rfl (.cons rfl (.cons rfl (.cons rfl (.cons rfl (.cons rfl .nil))))))))))) ?_
                refine W.cond rfl (fun c27 => ?_) (fun c27 => ?_)
                · (try simp only [Bool.not_eq_true'] at c27); (try simp only [Bool.not_eq_false'] at c27); (try simp only [decide_eq_true_eq] at c27); (try simp only [decide_eq_false_iff_not] at c27)
                  have hkl : k < (el ps (cOf d)).nodes.length := by omega
                  have hnk := hnodes _ hc4 _ (el_mem hkl)
                  obtain ⟨x, hxx⟩ : ∃ x : Nat, el (el ps (cOf d)).nodes k = (x : Int) := ⟨(el (el ps (cOf d)).nodes k).toNat, by omega⟩
                  have hx5 : x < 5 := by omega
                  have hct : cAt x (cOf d) (aOf d) < cp.length := by rw [hcpl]; exact cAt_lt hx5 hc4 ha6
                  have hsame := F.same d hd24 (el (el ps (cOf d)).nodes k) (by rw [hkey _ hc4]; exact el_mem hkl)
                  rw [hxx, Int.toNat_natCast] at hsame
                  refine W.skip ?_
                  refine WX.next ?_
                  refine W.seq ?_
                  refine W.block ?_
                  refine W.seq ?_
                  refine W.drawM ([Asr.row g2_1 33 (.int .u32 (up : Int) :: .slice A ps.length cap :: bs cp), Asr.lst placeE A cap ps, Asr.star (ps.map PlX.O), Asr.row g9_0 40 (bs want)]) (by kernel_rfl) (fun j => [4, 6, 7, 8, 10, 11, 16, 17, 18, 19, 22].contains j) M (by first | ((repeat (first | with_reducible exact Sel.refl | with_reducible exact Sel.nil | with_reducible exact Del.here | with_reducible apply Del.there | with_reducible apply Sel.cons | with_reducible apply Sel.drop)); done) | (repeat (first | exact Sel.refl | exact Sel.nil | exact Del.here | apply Del.there | apply Sel.cons | apply Sel.drop))) ?_
                  clear M; intro M
                  apply DG.pure_ [0, 1, 2, 3, 5, 9, 12, 13, 14, 15, 20, 21] 12 rfl (by kernel_rfl) (by kernel_rfl)
                  · intro w
                    refine WL.move rfl rfl ?_
                    refine WL.move rfl rfl ?_
                    refine WL.nilCheck rfl rfl ?_
                    refine WL.fieldR (off := 1) Try.underlying33 rfl rfl Try.sizeOf28 rfl rfl rfl ?_
                    refine WL.move rfl rfl ?_
                    refine WL.move rfl rfl ?_
                    refine WL.move rfl rfl ?_
                    refine WL.move rfl rfl ?_
                    refine WL.nilCheck rfl rfl ?_
                    refine WL.fieldR (off := 2) Try.underlying33 rfl rfl Try.sizeOf31 rfl rfl rfl ?_
                    refine WL.move rfl rfl ?_
                    refine WL.idxArrR Try.underlying40 Try.sizeOf5 rfl rfl (by omega) (by omega) (by first | exact rfl | exact (Int.toNat_of_nonneg (by omega)).symm) rfl ?_
                    exact Chain.end_ rfl
                  apply DG.take [4, 6, 7, 8, 10, 11, 16, 17, 18, 19, 22, 23] 0 rfl (by kernel_rfl) (by kernel_rfl) (M.sel (by first | ((repeat (first | with_reducible exact Sel.refl | with_reducible exact Sel.nil | with_reducible exact Del.here | with_reducible apply Del.there | with_reducible apply Sel.cons | with_reducible apply Sel.drop)); done) | (repeat (first | exact Sel.refl | exact Sel.nil | exact Del.here | apply Del.there | apply Sel.cons | apply Sel.drop))))
                  · intro w M
                    refine WL.loadR Try.isAgg28 rfl M (by first | ((repeat (first | with_reducible exact Has.here | with_reducible refine Has.there ?_)); done) | (repeat (first | exact Has.here | refine Has.there ?_))) rfl rfl ?_
                    refine WL.idxA Try.underlying28 Try.sizeOf36 rfl rfl (RdL.isSome (E := placeE) (by first | with_reducible assumption | with_reducible exact RdL.mem (by with_reducible assumption) M | exact M.rdL (by first | ((repeat (first | with_reducible exact Has.here | with_reducible refine Has.there ?_)); done) | (repeat (first | exact Has.here | refine Has.there ?_))) | exact RdLH.at (by assumption) (M.sel (by first | ((repeat (first | with_reducible exact Sel.refl | with_reducible exact Sel.nil | with_reducible exact Del.here | with_reducible apply Del.there | with_reducible apply Sel.cons | with_reducible apply Sel.drop)); done) | (repeat (first | exact Sel.refl | exact Sel.nil | exact Del.here | apply Del.there | apply Sel.cons | apply Sel.drop)))) | exact RdL.nil _ _ _) (by omega)) (by omega) (by omega) (by first | exact rfl | exact (Int.toNat_of_nonneg (by omega)).symm) rfl ?_
                    refine WL.fieldA (off := 1) Try.underlying36 rfl rfl Try.sizeOf34 rfl rfl rfl ?_
                    refine WL.loadE (E := placeE) Try.isAgg34 rfl (by first | with_reducible assumption | with_reducible exact RdL.mem (by with_reducible assumption) M | exact M.rdL (by first | ((repeat (first | with_reducible exact Has.here | with_reducible refine Has.there ?_)); done) | (repeat (first | exact Has.here | refine Has.there ?_))) | exact RdLH.at (by assumption) (M.sel (by first | ((repeat (first | with_reducible exact Sel.refl | with_reducible exact Sel.nil | with_reducible exact Del.here | with_reducible apply Del.there | with_reducible apply Sel.cons | with_reducible apply Sel.drop)); done) | (repeat (first | exact Sel.refl | exact Sel.nil | exact Del.here | apply Del.there | apply Sel.cons | apply Sel.drop)))) | exact RdL.nil _ _ _) (by omega) rfl rfl ?_
                    refine WL.idxA Try.underlying34 Try.sizeOf3 rfl rfl (RdL.isSome (E := intE) (ownRd (M.starHas (f := PlX.O) (by first | ((repeat (first | with_reducible exact Has.here | with_reducible refine Has.there ?_)); done) | (repeat (first | exact Has.here | refine Has.there ?_))) (el_mem hcl))) (by omega)) (by omega) (by omega) (by first | exact rfl | exact (Int.toNat_of_nonneg (by omega)).symm) rfl ?_
                    refine WL.loadE0 (E := intE) Try.isAgg3 rfl (ownRd (M.starHas (f := PlX.O) (by first | ((repeat (first | with_reducible exact Has.here | with_reducible refine Has.there ?_)); done) | (repeat (first | exact Has.here | refine Has.there ?_))) (el_mem hcl))) (by omega) rfl rfl ?_
                    refine WL.idxArrR Try.underlying31 Try.sizeOf30 rfl rfl (by omega) (by omega) hxx rfl ?_
                    refine WL.idxArrR Try.underlying30 Try.sizeOf29 rfl rfl (by omega) (by omega) (by first | exact rfl | exact (Int.toNat_of_nonneg (by omega)).symm) rfl ?_
                    refine WL.idxArrR Try.underlying29 Try.sizeOf5 rfl rfl (by omega) (by omega) (by first | exact rfl | exact (Int.toNat_of_nonneg (by omega)).symm) rfl ?_
                    refine WL.load Try.isAgg5 rfl (M.farmAt (by first | ((repeat (first | with_reducible exact Has.here | with_reducible refine Has.there ?_)); done) | (repeat (first | exact Has.here | refine Has.there ?_))) hct) rfl ?_
                    refine WL.load Try.isAgg5 rfl (M.byteAt (by first | ((repeat (first | with_reducible exact Has.here | with_reducible refine Has.there ?_)); done) | (repeat (first | exact Has.here | refine Has.there ?_))) (by omega)) rfl ?_
                    refine WL.neI rfl rfl rfl ?_
                    exact Chain.end_ rfl
                  refine DG.end_ (by kernel_rfl) ?_
                  refine WX.next ?_
                  refine W.sub [(0, _), (3, _), (4, _), (6, _), (7, _), (8, _), (18, _), (19, _), (20, _), (22, _), (289, _)] (.cons rfl (.cons rfl (.cons rfl (.cons rfl (.cons rfl (.cons rfl (.cons rfl (.cons rfl (.cons rfl (.cons rfl (.cons rfl .nil))))))))))) ?_
                  refine W.ite rfl (fun c28 => ?_) (fun c28 => ?_)
                  · exact absurd (by rw [hsame]) c28
                  · refine W.skip ?_
                    refine WX.blockNormal ?_
                    refine WX.next ?_
                    refine W.region ?_
                    refine WL.move rfl rfl ?_
                    refine WL.add rfl rfl (by first | exact wI64 (by omega) | rfl) rfl ?_
                    refine WL.assign rfl rfl ?_
                    refine WL.nil ?_
                    refine WX.round (k + 1) (by (repeat' (first | exact envSub.nil | refine envSub.cons ?_ ?_)) <;> first | rfl | (refine congrArg some ?_; refine congrArg (Value.int _) ?_; first | omega | (dsimp only; omega)) | (simp; done) | (refine congrArg some ?_; dsimp only; congr 1; omega) | (simp; omega)) ⟨M.sel (by first | ((repeat (first | with_reducible exact Sel.refl | with_reducible exact Sel.nil | with_reducible exact Del.here | with_reducible apply Del.there | with_reducible apply Sel.cons | with_reducible apply Sel.drop)); done) | (repeat (first | exact Sel.refl | exact Sel.nil | exact Del.here | apply Del.there | apply Sel.cons | apply Sel.drop))), (by omega)⟩ (by first | omega | (dsimp only; omega))
                · (try simp only [Bool.not_eq_true'] at c27); (try simp only [Bool.not_eq_false'] at c27); (try simp only [decide_eq_true_eq] at c27); (try simp only [decide_eq_false_iff_not] at c27)
                  refine W.exit ?_
                  refine WX.thenExit ?_
                  refine WX.thenExit ?_
                  refine WX.blockHere ?_
                  refine WX.blockNormal ?_
                  refine WX.next ?_
                  refine W.region ?_
                  refine WL.move rfl rfl ?_
                  refine WL.add rfl rfl (by first | exact wU64 (by omega) | exact mU64 _ | rfl) rfl ?_
                  refine WL.assign rfl rfl ?_
                  refine WL.nil ?_
                  refine WX.round (d + 1) (by (repeat' (first | exact envSub.nil | refine envSub.cons ?_ ?_)) <;> first | rfl | (refine congrArg some ?_; refine congrArg (Value.int _) ?_; first | omega | (dsimp only; omega)) | (simp; done) | (refine congrArg some ?_; dsimp only; congr 1; omega) | (simp; omega)) ⟨M.sel (by first | ((repeat (first | with_reducible exact Sel.refl | with_reducible exact Sel.nil | with_reducible exact Del.here | with_reducible apply Del.there | with_reducible apply Sel.cons | with_reducible apply Sel.drop)); done) | (repeat (first | exact Sel.refl | exact Sel.nil | exact Del.here | apply Del.there | apply Sel.cons | apply Sel.drop))), (by omega)⟩ (by first | omega | (dsimp only; omega))
              · refine WL.off rfl rfl rfl rfl ?_
                refine WL.off rfl rfl rfl rfl ?_
                refine WL.off rfl rfl rfl rfl ?_
                refine WL.off rfl rfl rfl rfl ?_
                refine WL.pickF rfl rfl rfl ?_
                refine WL.nil ?_
                refine WX.next ?_
                refine W.sub [(0, _), (3, _), (4, _), (6, _), (7, _), (8, _), (18, _), (19, _), (20, _), (22, _), (263, _)] (.cons rfl (.cons rfl (.cons rfl (.cons rfl (.cons rfl (.cons rfl (.cons rfl (.cons rfl (.cons rfl (.cons rfl (.cons rfl .nil))))))))))) ?_
                refine W.condF rfl ?_
                refine W.exit ?_
                refine WX.thenExit ?_
                refine WX.thenExit ?_
                refine WX.blockHere ?_
                refine WX.blockNormal ?_
                refine WX.next ?_
                refine W.region ?_
                refine WL.move rfl rfl ?_
                refine WL.add rfl rfl (by first | exact wU64 (by omega) | exact mU64 _ | rfl) rfl ?_
                refine WL.assign rfl rfl ?_
                refine WL.nil ?_
                refine WX.round (d + 1) (by (repeat' (first | exact envSub.nil | refine envSub.cons ?_ ?_)) <;> first | rfl | (refine congrArg some ?_; refine congrArg (Value.int _) ?_; first | omega | (dsimp only; omega)) | (simp; done) | (refine congrArg some ?_; dsimp only; congr 1; omega) | (simp; omega)) ⟨M.sel (by first | ((repeat (first | with_reducible exact Sel.refl | with_reducible exact Sel.nil | with_reducible exact Del.here | with_reducible apply Del.there | with_reducible apply Sel.cons | with_reducible apply Sel.drop)); done) | (repeat (first | exact Sel.refl | exact Sel.nil | exact Del.here | apply Del.there | apply Sel.cons | apply Sel.drop))), (by omega)⟩ (by first | omega | (dsimp only; omega))
            · refine W.exit ?_
              refine WX.thenExit ?_
              refine WX.thenExit ?_
              refine WX.blockHere ?_
              refine WX.blockNormal ?_
              refine WX.next ?_
              refine W.region ?_
              refine WL.move rfl rfl ?_
              refine WL.add rfl rfl (by first | exact wI64 (by omega) | rfl) rfl ?_
              refine WL.assign rfl rfl ?_
              refine WL.nil ?_
              refine WX.round ((i + 1, up, (A, cap, ps), cp, want, lost)) (by (repeat' (first | exact envSub.nil | refine envSub.cons ?_ ?_)) <;> first | rfl | (refine congrArg some ?_; refine congrArg (Value.int _) ?_; first | omega | (dsimp only; omega)) | (simp; done) | (refine congrArg some ?_; dsimp only; congr 1; omega) | (simp; omega)) ⟨M.sel (by first | ((repeat (first | with_reducible exact Sel.refl | with_reducible exact Sel.nil | with_reducible exact Del.here | with_reducible apply Del.there | with_reducible apply Sel.cons | with_reducible apply Sel.drop)); done) | (repeat (first | exact Sel.refl | exact Sel.nil | exact Del.here | apply Del.there | apply Sel.cons | apply Sel.drop))), ⟨⟨by dsimp only; omega, by dsimp only; omega⟩, F⟩⟩ (by first | omega | (dsimp only; omega))
          · refine W.exit ?_
            refine WX.thenExit ?_
            refine WX.thenExit ?_
            refine WX.blockHere ?_
            refine WX.next ?_
            refine W.seq ?_
            refine W.region ?_
            refine WL.assign rfl rfl ?_
            refine WL.nil ?_
            refine WX.next ?_
            refine W.sub [(2, _)] (.cons rfl .nil) ?_
            refine W.ret ?_
            refine WX.ret1 rfl rfl ?_
            exact ⟨rfl, M.sel (by first | ((repeat (first | with_reducible exact Sel.refl | with_reducible exact Sel.nil | with_reducible exact Del.here | with_reducible apply Del.there | with_reducible apply Sel.cons | with_reducible apply Sel.drop)); done) | (repeat (first | exact Sel.refl | exact Sel.nil | exact Del.here | apply Del.there | apply Sel.cons | apply Sel.drop)))⟩
        · refine WL.off rfl rfl rfl rfl ?_
          refine WL.off rfl rfl rfl rfl ?_
          refine WL.pickF rfl rfl rfl ?_
          refine WL.nil ?_
          refine WX.next ?_
          refine W.sub [(0, _), (3, _), (4, _), (6, _), (7, _), (8, _), (62, _)] (.cons rfl (.cons rfl (.cons rfl (.cons rfl (.cons rfl (.cons rfl (.cons rfl .nil))))))) ?_
          refine W.condF rfl ?_
          refine W.exit ?_
          refine WX.thenExit ?_
          refine WX.thenExit ?_
          refine WX.blockHere ?_
          refine WX.next ?_
          refine W.seq ?_
          refine W.region ?_
          refine WL.assign rfl rfl ?_
          refine WL.nil ?_
          refine WX.next ?_
          refine W.sub [(2, _)] (.cons rfl .nil) ?_
          refine W.ret ?_
          refine WX.ret1 rfl rfl ?_
          exact ⟨rfl, M.sel (by first | ((repeat (first | with_reducible exact Sel.refl | with_reducible exact Sel.nil | with_reducible exact Del.here | with_reducible apply Del.there | with_reducible apply Sel.cons | with_reducible apply Sel.drop)); done) | (repeat (first | exact Sel.refl | exact Sel.nil | exact Del.here | apply Del.there | apply Sel.cons | apply Sel.drop)))⟩
end Go.Proofs.Ytcmlehggfkjagaa
