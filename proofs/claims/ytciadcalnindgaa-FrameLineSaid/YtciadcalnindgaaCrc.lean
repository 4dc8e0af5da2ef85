/-
  Walks: the two sums.
-/
import Derived.Test.YtciadcalnindgaaCrcLaw
import Derived.Test.YtciadcalnindgaaOwnAll
import Derived.Test.YtciadcalnindgaaFix
namespace Go.Proofs.Ytciadcalnindgaa
open Go Go.RowKit Crc

section
variable {P : Program} {n : Nat} {ρ : List (Nat × Value)} {w : World} {rest : List Oper} {X : SqV P n}
variable {d : Nat} {ty : TypeId} {pos : String} {aft : Array Edge} {x : Operand} {t : TypeId} {k : IntKind} {i r : Int}
theorem WL.com (hx : ev ρ x = some (.int k i)) (hr : bits .xor k (if k.signed then -1 else k.max) i = r) (hd : Nat.blt d n = true)
    (kk : X.S rest ((d, .int k r) :: ρ) w) : X.S (⟨some d, .unOp .xor t x, ty, pos, aft, none⟩ :: rest) ρ w :=
  WL.val rfl rfl hd (fun a ha => by simp [execOp, ha.eval hx, Op.unary, intBits_xor, hr]) kk
end

theorem comU32 (r : Nat) (h : r < 4294967296) : bits .xor .u32 (if IntKind.u32.signed then -1 else IntKind.u32.max) (r : Int) = ((4294967295 - r : Nat) : Int) := by
  have h1 := xorU32 4294967295 r (by omega) h
  have h2 : 4294967295 ^^^ r = 4294967295 - r := by
    have h1 := congrArg BitVec.toNat (BitVec.xor_allOnes (x := BitVec.ofNat 32 r))
    simp only [BitVec.toNat_xor, BitVec.toNat_ofNat, BitVec.toNat_allOnes, BitVec.toNat_not, Nat.reducePow, Nat.mod_eq_of_lt h] at h1
    rw [Nat.xor_comm]
    omega
  rw [h2] at h1
  exact h1
theorem and1U32 (a : Nat) (h : a < 4294967296) : bits .and .u32 (a : Int) 1 = ((a % 2 : Nat) : Int) := by
  have := andU32 a 1 h (by omega)
  rw [show a &&& 1 = a % 2 from Nat.and_two_pow_sub_one_eq_mod a 1] at this
  exact this

theorem flat_take (ps : List OX) (i : Nat) (h : i < ps.length) : (ps.take (i + 1)).flatMap OX.l = (ps.take i).flatMap OX.l ++ ps[i].l := by
  rw [List.take_succ_eq_append_getElem h, List.flatMap_append]
  simp
theorem crcL_flat (r : Nat) (ps : List OX) (i : Nat) (h : i < ps.length) : crcL r ((ps.take (i + 1)).flatMap OX.l) = crcL (crcL r ((ps.take i).flatMap OX.l)) ps[i].l := by
  rw [flat_take ps i h, crcL_append]
theorem crcL_take (r : Nat) (l : List UInt8) (j : Nat) (h : j < l.length) : crcL r (l.take (j + 1)) = crcB (crcL r (l.take j)) l[j] := by
  rw [List.take_succ_eq_append_getElem h, crcL_snoc]

/-- The sum of parts that can be read. -/
theorem Sum_ok {ps : List OX} {B : Option Addr} {c : Nat} {w : World} (hB : Rd w B ps.length c 1 (ps.map OX.v)) (hp : ∀ x ∈ ps, RdB w x.A x.cap x.l) (hn : ps.length ≤ 1000000) (hl : ∀ x ∈ ps, x.l.length ≤ 140737488355328) :
    Fn Try.prog 5 [.slice B ps.length c] w fun v w' => v = .int .u32 (crc (ps.flatMap OX.l) : Int) ∧ w = w' := by
  refine Fn.enter Try.func5 rfl Try.ntmps5 rfl ?_
  refine W.sub [(0, _)] (.cons rfl .nil) ?_
  refine W.seq ?_
  refine W.region ?_
  refine WL.assign rfl rfl ?_
  refine WL.nil ?_
  refine WX.next ?_
  refine W.sub [(0, _)] (.cons rfl .nil) ?_
  refine W.seq ?_
  refine W.region ?_
  refine WL.assign rfl rfl ?_
  refine WL.nil ?_
  refine WX.next ?_
  refine W.sub [(0, _), (3, _)] (.cons rfl (.cons rfl .nil)) ?_
  refine W.seq ?_
  refine W.seq ?_
  refine W.region ?_
  refine WL.move rfl rfl ?_
  refine WL.len Try.underlying34 rfl rfl ?_
  refine WL.move rfl rfl ?_
  refine WL.nil ?_
  refine WX.next ?_
  refine W.sub [(3, _), (9, _), (10, _), (11, _)] (.cons rfl (.cons rfl (.cons rfl (.cons rfl .nil)))) ?_
  refine W.block ?_
  refine W.loop (ι := Nat × Nat) (fun s => [(3, .int .u32 (s.2 : Int)), (9, .slice B ps.length c), (10, .int .i64 (ps.length : Int)), (11, .int .i64 (s.1 : Int))]) (fun s w' => s.1 ≤ ps.length ∧ s.2 < 4294967296 ∧ s.2 = crcL 4294967295 ((ps.take s.1).flatMap OX.l) ∧ w = w') (fun s => ps.length - s.1) ((0, 4294967295)) (by (repeat' (first | exact envSub.nil | refine envSub.cons ?_ ?_)) <;> first | rfl | (refine congrArg some ?_; refine congrArg (Value.int _) ?_; first | omega | (dsimp only; omega)) | (simp; done) | (refine congrArg some ?_; dsimp only; congr 1; omega) | (simp; omega)) ⟨by dsimp only; omega, by dsimp only; omega, by dsimp only; rw [List.take_zero, List.flatMap_nil, crcL_nil], rfl⟩ ?_
  rintro ⟨i, r⟩ _ ⟨hi, hr, hre, rfl⟩; dsimp only at hi hr hre ⊢
  refine W.sub [(3, _), (9, _), (10, _), (11, _)] (.cons rfl (.cons rfl (.cons rfl (.cons rfl .nil)))) ?_
  refine W.seq ?_
  refine W.region ?_
  refine WL.lss rfl rfl rfl ?_
  refine WL.nil ?_
  refine WX.next ?_
  refine W.sub [(3, _), (9, _), (10, _), (11, _), (12, _)] (.cons rfl (.cons rfl (.cons rfl (.cons rfl (.cons rfl .nil))))) ?_
  refine W.seq ?_
  refine W.ite rfl (fun c0 => ?_) (fun c0 => ?_)
  · obtain ⟨⟨A, cap, l⟩, hx⟩ : ∃ x, x = ps[i]'(by omega) := ⟨_, rfl⟩
    have hmem : (⟨A, cap, l⟩ : OX) ∈ ps := hx ▸ List.getElem_mem _
    have hR : RdB w A cap l := hp _ hmem
    have hll : l.length ≤ 140737488355328 := hl _ hmem
    have hxi : (ps.map OX.v)[i]? = some (.slice A l.length cap) := by
      rw [List.getElem?_map, List.getElem?_eq_getElem (by omega), ← hx]
      rfl
    refine W.skip ?_
    refine WX.next ?_
    refine W.seq ?_
    refine W.block ?_
    refine W.seq ?_
    refine W.region ?_
    refine WL.idx1 Try.underlying34 Try.sizeOf22 rfl rfl hB (by rw [Int.toNat_natCast]; exact hxi) (by omega) rfl ?_
    intro ad4 had4
    refine WL.load Try.isAgg22 rfl had4 rfl ?_
    refine WL.assign rfl rfl ?_
    refine WL.nil ?_
    refine WX.next ?_
    refine W.sub [(3, _), (5, _), (9, _), (10, _), (11, _)] (.cons rfl (.cons rfl (.cons rfl (.cons rfl (.cons rfl .nil))))) ?_
    refine W.seq ?_
    refine W.region ?_
    refine WL.move rfl rfl ?_
    refine WL.len Try.underlying22 rfl rfl ?_
    refine WL.move rfl rfl ?_
    refine WL.nil ?_
    refine WX.next ?_
    refine W.sub [(3, _), (9, _), (10, _), (11, _), (15, _), (16, _), (17, _)] (.cons rfl (.cons rfl (.cons rfl (.cons rfl (.cons rfl (.cons rfl (.cons rfl .nil))))))) ?_
    refine W.block ?_
    refine W.loop (ι := Nat × Nat) (fun s => [(3, .int .u32 (s.2 : Int)), (9, .slice B ps.length c), (10, .int .i64 (ps.length : Int)), (11, .int .i64 (i : Int)), (15, .slice A l.length cap), (16, .int .i64 (l.length : Int)), (17, .int .i64 (s.1 : Int))]) (fun s w' => s.1 ≤ l.length ∧ s.2 < 4294967296 ∧ s.2 = crcL r (l.take s.1) ∧ w = w') (fun s => l.length - s.1) ((0, r)) (by (repeat' (first | exact envSub.nil | refine envSub.cons ?_ ?_)) <;> first | rfl | (refine congrArg some ?_; refine congrArg (Value.int _) ?_; first | omega | (dsimp only; omega)) | (simp; done) | (refine congrArg some ?_; dsimp only; congr 1; omega) | (simp; omega)) ⟨by dsimp only; omega, hr, by dsimp only; rw [List.take_zero, crcL_nil], rfl⟩ ?_
    rintro ⟨j, r1⟩ _ ⟨hj, hr1, hre1, rfl⟩; dsimp only at hj hr1 hre1 ⊢
    refine W.sub [(3, _), (9, _), (10, _), (11, _), (15, _), (16, _), (17, _)] (.cons rfl (.cons rfl (.cons rfl (.cons rfl (.cons rfl (.cons rfl (.cons rfl .nil))))))) ?_
    refine W.seq ?_
    refine W.region ?_
    refine WL.lss rfl rfl rfl ?_
    refine WL.nil ?_
    refine WX.next ?_
    refine W.sub [(3, _), (9, _), (10, _), (11, _), (15, _), (16, _), (17, _), (18, _)] (.cons rfl (.cons rfl (.cons rfl (.cons rfl (.cons rfl (.cons rfl (.cons rfl (.cons rfl .nil)))))))) ?_
    refine W.seq ?_
    refine W.ite rfl (fun c1 => ?_) (fun c1 => ?_)
    · have hjl : j < l.length := by omega
      obtain ⟨cb, hcb⟩ : ∃ cb, cb = l[j] := ⟨_, rfl⟩
      have hc8 := UInt8.toNat_lt cb
      have hbj : (bs l)[j]? = some (.int .u8 (cb.toNat : Int)) := by
        rw [bs_get, List.getElem?_eq_getElem hjl, hcb]
        rfl
      obtain ⟨r0, hr0⟩ : ∃ r0, r0 = r1 ^^^ cb.toNat := ⟨_, rfl⟩
      have hr0l : r0 < 4294967296 := hr0 ▸ byte_xor_lt hr1 cb
      refine W.skip ?_
      refine WX.next ?_
      refine W.seq ?_
      refine W.block ?_
      refine W.seq ?_
      refine W.region ?_
      refine WL.idx1 Try.underlying22 Try.sizeOf5 rfl rfl hR (by rw [Int.toNat_natCast]; exact hbj) (by omega) rfl ?_
      intro ad7 had7
      refine WL.load Try.isAgg5 rfl had7 rfl ?_
      refine WL.assign rfl rfl ?_
      refine WL.nil ?_
      refine WX.next ?_
      refine W.sub [(3, _), (7, _), (9, _), (10, _), (11, _), (15, _), (16, _), (17, _)] (.cons rfl (.cons rfl (.cons rfl (.cons rfl (.cons rfl (.cons rfl (.cons rfl (.cons rfl .nil)))))))) ?_
      refine W.seq ?_
      refine W.region ?_
      refine WL.move rfl rfl ?_
      refine WL.move rfl rfl ?_
      refine WL.conv Try.underlying5 Try.underlying24 rfl (by first | exact wU32 (by omega) | exact mU32 _ | rfl) rfl ?_
      refine WL.bxor rfl rfl (xorU32 _ _ hr1 (by omega)) rfl ?_
      refine WL.assign rfl rfl ?_
      rw [← hr0]
      refine WL.nil ?_
      refine WX.next ?_
      refine W.sub [(3, _), (9, _), (10, _), (11, _), (15, _), (16, _), (17, _)] (.cons rfl (.cons rfl (.cons rfl (.cons rfl (.cons rfl (.cons rfl (.cons rfl .nil))))))) ?_
      refine W.seq ?_
      refine W.region ?_
      refine WL.move rfl rfl ?_
      refine WL.nil ?_
      refine WX.next ?_
      refine W.sub [(3, _), (9, _), (10, _), (11, _), (15, _), (16, _), (17, _), (25, _)] (.cons rfl (.cons rfl (.cons rfl (.cons rfl (.cons rfl (.cons rfl (.cons rfl (.cons rfl .nil)))))))) ?_
      refine W.block ?_
      refine W.loop (ι := Nat × Nat) (fun s => [(3, .int .u32 (s.2 : Int)), (9, .slice B ps.length c), (10, .int .i64 (ps.length : Int)), (11, .int .i64 (i : Int)), (15, .slice A l.length cap), (16, .int .i64 (l.length : Int)), (17, .int .i64 (j : Int)), (25, .int .i64 (s.1 : Int))]) (fun s w' => s.1 ≤ 8 ∧ s.2 < 4294967296 ∧ s.2 = shN s.1 r0 ∧ w = w') (fun s => 8 - s.1) ((0, r0)) (by (repeat' (first | exact envSub.nil | refine envSub.cons ?_ ?_)) <;> first | rfl | (refine congrArg some ?_; refine congrArg (Value.int _) ?_; first | omega | (dsimp only; omega)) | (simp; done) | (refine congrArg some ?_; dsimp only; congr 1; omega) | (simp; omega)) ⟨by dsimp only; omega, hr0l, by dsimp only; rw [shN_zero], rfl⟩ ?_
      rintro ⟨k, r2⟩ _ ⟨hk, hr2, hre2, rfl⟩; dsimp only at hk hr2 hre2 ⊢
      refine W.sub [(3, _), (9, _), (10, _), (11, _), (15, _), (16, _), (17, _), (25, _)] (.cons rfl (.cons rfl (.cons rfl (.cons rfl (.cons rfl (.cons rfl (.cons rfl (.cons rfl .nil)))))))) ?_
      refine W.seq ?_
      refine W.region ?_
      refine WL.lss rfl rfl rfl ?_
      refine WL.nil ?_
      refine WX.next ?_
      refine W.sub [(3, _), (9, _), (10, _), (11, _), (15, _), (16, _), (17, _), (25, _), (26, _)] (.cons rfl (.cons rfl (.cons rfl (.cons rfl (.cons rfl (.cons rfl (.cons rfl (.cons rfl (.cons rfl .nil))))))))) ?_
      refine W.seq ?_
      refine W.ite rfl (fun c2 => ?_) (fun c2 => ?_)
      · refine W.skip ?_
        refine WX.next ?_
        refine W.seq ?_
        refine W.block ?_
        refine W.seq ?_
        refine W.region ?_
        refine WL.move rfl rfl ?_
        refine WL.band rfl rfl (and1U32 _ hr2) rfl ?_
        refine WL.assign rfl rfl ?_
        refine WL.nil ?_
        refine WX.next ?_
        refine W.sub [(3, _), (8, _), (9, _), (10, _), (11, _), (15, _), (16, _), (17, _), (25, _)] (.cons rfl (.cons rfl (.cons rfl (.cons rfl (.cons rfl (.cons rfl (.cons rfl (.cons rfl (.cons rfl .nil))))))))) ?_
        refine W.seq ?_
        refine W.region ?_
        refine WL.move rfl rfl ?_
        refine WL.shrC rfl rfl 1 rfl rfl 2 rfl rfl ?_
        refine WL.assign rfl rfl ?_
        refine WL.nil ?_
        refine WX.next ?_
        refine W.sub [(3, _), (8, _), (9, _), (10, _), (11, _), (15, _), (16, _), (17, _), (25, _)] (.cons rfl (.cons rfl (.cons rfl (.cons rfl (.cons rfl (.cons rfl (.cons rfl (.cons rfl (.cons rfl .nil))))))))) ?_
        refine W.seq ?_
        refine W.region ?_
        refine WL.move rfl rfl ?_
        refine WL.eqI rfl rfl rfl ?_
        refine WL.nil ?_
        refine WX.next ?_
        refine W.sub [(3, _), (9, _), (10, _), (11, _), (15, _), (16, _), (17, _), (25, _), (32, _)] (.cons rfl (.cons rfl (.cons rfl (.cons rfl (.cons rfl (.cons rfl (.cons rfl (.cons rfl (.cons rfl .nil))))))))) ?_
        refine W.ite rfl (fun c3 => ?_) (fun c3 => ?_)
        · have hs : shN (k + 1) r0 = r2 / 2 ^^^ 3988292384 := by
            rw [shN_succ, ← hre2, sh, if_pos (by omega)]
            rfl
          have hsl : r2 / 2 ^^^ 3988292384 < 4294967296 := by rw [← hs]; exact shN_lt hr0l _
          refine W.region ?_
          refine WL.move rfl rfl ?_
          refine WL.bxor rfl rfl (xorU32 (r2 / 2) 3988292384 (by omega) (by omega)) rfl ?_
          refine WL.assign rfl rfl ?_
          refine WL.nil ?_
          refine WX.blockNormal ?_
          refine WX.next ?_
          refine W.sub [(3, _), (9, _), (10, _), (11, _), (15, _), (16, _), (17, _), (25, _)] (.cons rfl (.cons rfl (.cons rfl (.cons rfl (.cons rfl (.cons rfl (.cons rfl (.cons rfl .nil)))))))) ?_
          refine W.region ?_
          refine WL.add rfl rfl (by first | exact wI64 (by omega) | rfl) rfl ?_
          refine WL.move rfl rfl ?_
          refine WL.nil ?_
          refine WX.round ((k + 1, r2 / 2 ^^^ 3988292384)) (by (repeat' (first | exact envSub.nil | refine envSub.cons ?_ ?_)) <;> first | rfl | (refine congrArg some ?_; refine congrArg (Value.int _) ?_; first | omega | (dsimp only; omega)) | (simp; done) | (refine congrArg some ?_; dsimp only; congr 1; omega) | (simp; omega)) ⟨by dsimp only; omega, hsl, hs.symm, rfl⟩ (by first | omega | (dsimp only; omega))
        · have hs : shN (k + 1) r0 = r2 / 2 := by rw [shN_succ, ← hre2, sh, if_neg (by omega)]
          refine W.skip ?_
          refine WX.blockNormal ?_
          refine WX.next ?_
          refine W.region ?_
          refine WL.add rfl rfl (by first | exact wI64 (by omega) | rfl) rfl ?_
          refine WL.move rfl rfl ?_
          refine WL.nil ?_
          refine WX.round ((k + 1, r2 / 2)) (by (repeat' (first | exact envSub.nil | refine envSub.cons ?_ ?_)) <;> first | rfl | (refine congrArg some ?_; refine congrArg (Value.int _) ?_; first | omega | (dsimp only; omega)) | (simp; done) | (refine congrArg some ?_; dsimp only; congr 1; omega) | (simp; omega)) ⟨by dsimp only; omega, by dsimp only; omega, hs.symm, rfl⟩ (by first | omega | (dsimp only; omega))
      · obtain rfl : k = 8 := by omega
        refine W.exit ?_
        refine WX.thenExit ?_
        refine WX.thenExit ?_
        refine WX.blockHere ?_
        refine WX.blockNormal ?_
        refine WX.next ?_
        refine W.region ?_
        refine WL.add rfl rfl (by first | exact wI64 (by omega) | rfl) rfl ?_
        refine WL.move rfl rfl ?_
        refine WL.nil ?_
        skip
        have q : r2 = crcL r (l.take (j + 1)) := by
          rw [crcL_take r l j hjl, ← hre1, hre2, hr0, hcb]
          rfl
        refine WX.round ((j + 1, r2)) (by (repeat' (first | exact envSub.nil | refine envSub.cons ?_ ?_)) <;> first | rfl | (refine congrArg some ?_; refine congrArg (Value.int _) ?_; first | omega | (dsimp only; omega)) | (simp; done) | (refine congrArg some ?_; dsimp only; congr 1; omega) | (simp; omega)) ⟨by dsimp only; omega, hr2, q, rfl⟩ (by first | omega | (dsimp only; omega))
    · obtain rfl : j = l.length := by omega
      refine W.exit ?_
      refine WX.thenExit ?_
      refine WX.thenExit ?_
      refine WX.blockHere ?_
      refine WX.blockNormal ?_
      refine WX.next ?_
      refine W.region ?_
      refine WL.add rfl rfl (by first | exact wI64 (by omega) | rfl) rfl ?_
      refine WL.move rfl rfl ?_
      refine WL.nil ?_
      skip
      have q : r1 = crcL 4294967295 ((ps.take (i + 1)).flatMap OX.l) := by
        rw [crcL_flat _ ps i (by omega), ← hre, ← hx, hre1, List.take_length]
      refine WX.round ((i + 1, r1)) (by (repeat' (first | exact envSub.nil | refine envSub.cons ?_ ?_)) <;> first | rfl | (refine congrArg some ?_; refine congrArg (Value.int _) ?_; first | omega | (dsimp only; omega)) | (simp; done) | (refine congrArg some ?_; dsimp only; congr 1; omega) | (simp; omega)) ⟨by dsimp only; omega, hr1, q, rfl⟩ (by first | omega | (dsimp only; omega))
  · obtain rfl : i = ps.length := by omega
    refine W.exit ?_
    refine WX.thenExit ?_
    refine WX.thenExit ?_
    refine WX.blockHere ?_
    refine WX.next ?_
    refine W.seq ?_
    refine W.region ?_
    refine WL.move rfl rfl ?_
    refine WL.com rfl (comU32 _ hr) rfl ?_
    refine WL.assign rfl rfl ?_
    refine WL.nil ?_
    refine WX.next ?_
    refine W.sub [(2, _)] (.cons rfl .nil) ?_
    refine W.ret ?_
    refine WX.ret1 rfl rfl ?_
    exact ⟨by rw [hre, List.take_length]; rfl, rfl⟩

end Go.Proofs.Ytciadcalnindgaa
