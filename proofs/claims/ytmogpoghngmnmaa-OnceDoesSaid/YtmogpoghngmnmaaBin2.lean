/-
  Walks: bin.Uint, seawallref01.Uint (and short): what number stands at a place.
-/
import Derived.Test.YtmogpoghngmnmaaBin1
import Derived.Test.YtmogpoghngmnmaaBinLaw2
namespace Go.Proofs.Ytmogpoghngmnmaa
open Go Go.RowKit Bin

def rdUv (x : Nat × Int × Int) : Value := .tuple #[.int .u64 (x.1 : Int), .int .i64 x.2.1, .int .i64 x.2.2]
theorem rdUv_mk {n n' : Nat} {a a' e e' : Int} (h1 : n = n') (h2 : a = a') (h3 : e = e') : Value.tuple #[.int .u64 (n : Int), .int .i64 a, .int .i64 e] = rdUv (n', a', e') := by
  subst h1 h2 h3; rfl

theorem fits7 {k x : Nat} (hk : k ≤ 9) (hx : x ≤ 127) (h9 : k = 9 → x ≤ 1) : 128 ^ k + x * 128 ^ k ≤ 18446744073709551616 := by
  have : k = 0 ∨ k = 1 ∨ k = 2 ∨ k = 3 ∨ k = 4 ∨ k = 5 ∨ k = 6 ∨ k = 7 ∨ k = 8 ∨ k = 9 := by omega
  rcases this with rfl | rfl | rfl | rfl | rfl | rfl | rfl | rfl | rfl | rfl <;> simp at h9 ⊢ <;> omega
theorem shl7 {k x : Nat} (hf : 128 ^ k + x * 128 ^ k ≤ 18446744073709551616) : IntKind.u64.wrap ((x : Int) * 2 ^ (7 * (k : Int)).toNat) = ((x * 128 ^ k : Nat) : Int) := by
  have e : (x : Int) * 2 ^ (7 * (k : Int)).toNat = ((x * 128 ^ k : Nat) : Int) := by
    rw [show (7 * (k : Int)).toNat = 7 * k by omega]
    push_cast
    rw [show (128 : Int) = 2 ^ 7 by rfl, ← Int.pow_mul]
  have hp : 0 < 128 ^ k := Nat.pow_pos (by decide)
  rw [e]
  exact wU64 ⟨by omega, by omega⟩
theorem or7 {k x acc : Nat} (ha : acc < 128 ^ k) (hf : 128 ^ k + x * 128 ^ k ≤ 18446744073709551616) : bits .or .u64 (acc : Int) ((x * 128 ^ k : Nat) : Int) = ((acc + 128 ^ k * x : Nat) : Int) := by
  rw [orU64 _ _ (by omega) (by have : 0 < 128 ^ k := Nat.pow_pos (by decide); omega)]
  have e : x * 128 ^ k = 2 ^ (7 * k) * x := by rw [Nat.mul_comm, Nat.pow_mul]
  have h := Nat.two_pow_add_eq_or_of_lt (i := 7 * k) (b := acc) (by rw [Nat.pow_mul]; exact ha) x
  rw [e, Nat.or_comm, ← h, Nat.pow_mul, Nat.add_comm]

theorem Uint_ok (l : List UInt8) (A : Option Addr) (cap : Nat) (at_ : Int) (w : World) (h : RdB w A cap l) (hl : l.length ≤ 140737488355328) (ha : -9223372036854775808 ≤ at_ ∧ at_ ≤ 9223372036854775807) :
    Fn Try.prog 56 [.slice A l.length cap, .int .i64 at_] w fun v w' => v = rdUv (rdU l at_) ∧ w = w' := by
  refine Fn.enter Try.func56 rfl Try.ntmps56 rfl ?_
  refine W.sub [(0, _), (1, _)] (.cons rfl (.cons rfl .nil)) ?_
  obtain ⟨L, hL⟩ : ∃ L, L = l.drop at_.toNat := ⟨_, rfl⟩
  refine W.seq ?_
  refine W.region ?_
  refine WL.assign rfl rfl ?_
  refine WL.assign rfl rfl ?_
  refine WL.assign rfl rfl ?_
  refine WL.nil ?_
  refine WX.next ?_
  refine W.sub [(0, _), (1, _)] (.cons rfl (.cons rfl .nil)) ?_
  refine W.scope ?_
  refine W.seq ?_
  refine W.seq ?_
  refine W.region ?_
  refine WL.move rfl rfl ?_
  refine WL.lss rfl rfl rfl ?_
  refine WL.moveIf rfl rfl (fun c0 => ?_) (fun c0 => ?_)
  · refine WL.off rfl rfl rfl rfl ?_
    refine WL.off rfl rfl rfl rfl ?_
    refine WL.off rfl rfl rfl rfl ?_
    refine WL.off rfl rfl rfl rfl ?_
    refine WL.pickT rfl rfl rfl ?_
    refine WL.nil ?_
    refine WX.next ?_
    refine W.sub [(0, _), (1, _), (17, _)] (.cons rfl (.cons rfl (.cons rfl .nil))) ?_
    refine W.condT rfl ?_
    refine W.seq ?_
    refine W.region ?_
    refine WL.assign rfl rfl ?_
    refine WL.assign rfl rfl ?_
    refine WL.assign rfl rfl ?_
    refine WL.nil ?_
    refine WX.next ?_
    refine W.sub [(4, _), (5, _), (6, _)] (.cons rfl (.cons rfl (.cons rfl .nil))) ?_
    refine W.ret ?_
    refine WX.thenRet ?_
    refine WX.scopeRet ?_
    refine WX.ret3 rfl rfl rfl rfl ?_
    exact ⟨by rw [rdU_out (by omega)]; rfl, rfl⟩
  · refine WL.on rfl rfl ?_
    refine WL.move rfl rfl ?_
    refine WL.on rfl rfl ?_
    refine WL.move rfl rfl ?_
    refine WL.on rfl rfl ?_
    refine WL.len Try.underlying32 rfl rfl ?_
    refine WL.on rfl rfl ?_
    refine WL.gtr rfl rfl rfl ?_
    refine WL.pickF rfl rfl rfl ?_
    refine WL.nil ?_
    refine WX.next ?_
    refine W.sub [(0, _), (1, _), (17, _)] (.cons rfl (.cons rfl (.cons rfl .nil))) ?_
    refine W.ite rfl (fun c1 => ?_) (fun c1 => ?_)
    · skip
      refine W.seq ?_
      refine W.region ?_
      refine WL.assign rfl rfl ?_
      refine WL.assign rfl rfl ?_
      refine WL.assign rfl rfl ?_
      refine WL.nil ?_
      refine WX.next ?_
      refine W.sub [(4, _), (5, _), (6, _)] (.cons rfl (.cons rfl (.cons rfl .nil))) ?_
      refine W.ret ?_
      refine WX.thenRet ?_
      refine WX.scopeRet ?_
      refine WX.ret3 rfl rfl rfl rfl ?_
      exact ⟨by rw [rdU_out (by omega)]; rfl, rfl⟩
    · refine W.skip ?_
      refine WX.next ?_
      refine W.seq ?_
      refine W.region ?_
      refine WL.assign rfl rfl ?_
      refine WL.nil ?_
      refine WX.next ?_
      refine W.sub [(0, _), (1, _), (7, _)] (.cons rfl (.cons rfl (.cons rfl .nil))) ?_
      refine W.seq ?_
      refine W.label ?_
      refine WX.next ?_
      refine W.seq ?_
      refine W.seq ?_
      refine W.region ?_
      refine WL.move rfl rfl ?_
      refine WL.nil ?_
      refine WX.next ?_
      refine W.sub [(0, _), (1, _), (7, _), (18, _)] (.cons rfl (.cons rfl (.cons rfl (.cons rfl .nil)))) ?_
      refine W.block ?_
      refine W.loop (ι := Nat) (fun k => [(0, .slice A l.length cap), (1, .int .i64 at_), (7, .int .u64 ((accV L k : Nat) : Int)), (18, .int .i64 (k : Int))]) (fun k w' => w = w' ∧ Inv L k ∧ 0 ≤ at_ ∧ at_ ≤ l.length) (fun k => 10 - k) (0) (by (repeat' (first | exact envSub.nil | refine envSub.cons ?_ ?_)) <;> first | rfl | (refine congrArg some ?_; refine congrArg (Value.int _) ?_; first | omega | (dsimp only; omega)) | (simp; done) | (refine congrArg some ?_; dsimp only; congr 1; omega) | (simp; omega)) ⟨rfl, Inv.start L, by omega, by omega⟩ ?_
      rintro k _ ⟨rfl, H, h0, h1⟩
      have hLl : L.length = l.length - at_.toNat := by rw [hL]; simp
      have hk := H.le
      refine W.sub [(0, _), (1, _), (7, _), (18, _)] (.cons rfl (.cons rfl (.cons rfl (.cons rfl .nil)))) ?_
      refine W.seq ?_
      refine W.region ?_
      refine WL.lss rfl rfl rfl ?_
      refine WL.nil ?_
      refine WX.next ?_
      refine W.sub [(0, _), (1, _), (7, _), (18, _), (19, _)] (.cons rfl (.cons rfl (.cons rfl (.cons rfl (.cons rfl .nil))))) ?_
      refine W.seq ?_
      refine W.ite rfl (fun c2 => ?_) (fun c2 => ?_)
      · refine W.skip ?_
        refine WX.next ?_
        refine W.seq ?_
        refine W.block ?_
        refine W.seq ?_
        refine W.region ?_
        refine WL.move rfl rfl ?_
        refine WL.assign rfl rfl ?_
        refine WL.nil ?_
        refine WX.next ?_
        refine W.sub [(0, _), (1, _), (7, _), (8, _), (18, _)] (.cons rfl (.cons rfl (.cons rfl (.cons rfl (.cons rfl .nil))))) ?_
        refine W.seq ?_
        refine W.seq ?_
        refine W.region ?_
        refine WL.move rfl rfl ?_
        refine WL.move rfl rfl ?_
        refine WL.add rfl rfl (by first | exact wI64 (by omega) | rfl) rfl ?_
        refine WL.move rfl rfl ?_
        refine WL.len Try.underlying32 rfl rfl ?_
        refine WL.geq rfl rfl rfl ?_
        refine WL.nil ?_
        refine WX.next ?_
        refine W.sub [(0, _), (1, _), (7, _), (8, _), (18, _), (26, _)] (.cons rfl (.cons rfl (.cons rfl (.cons rfl (.cons rfl (.cons rfl .nil)))))) ?_
        refine W.ite rfl (fun c3 => ?_) (fun c3 => ?_)
        · refine W.seq ?_
          refine W.region ?_
          refine WL.assign rfl rfl ?_
          refine WL.assign rfl rfl ?_
          refine WL.assign rfl rfl ?_
          refine WL.nil ?_
          refine WX.next ?_
          refine W.sub [(4, _), (5, _), (6, _)] (.cons rfl (.cons rfl (.cons rfl .nil))) ?_
          refine W.ret ?_
          refine WX.thenRet ?_
          refine WX.blockRet ?_
          refine WX.thenRet ?_
          refine WX.thenRet ?_
          refine WX.blockRet ?_
          refine WX.thenRet ?_
          refine WX.scopeRet ?_
          refine WX.ret3 rfl rfl rfl rfl ?_
          exact ⟨by rw [rdU_bad h0 h1 (e := 9) (by rw [← hL]; exact H.short (by omega) (by omega))]; rfl, rfl⟩
        · refine W.skip ?_
          refine WX.next ?_
          refine W.seq ?_
          refine W.region ?_
          refine WL.move rfl rfl ?_
          refine WL.move rfl rfl ?_
          refine WL.move rfl rfl ?_
          refine WL.add rfl rfl (by first | exact wI64 (by omega) | rfl) rfl ?_
          refine WL.idxB Try.underlying32 Try.sizeOf5 rfl rfl (by assumption) rfl (by omega) (by omega) rfl ?_
          intro ad9_4 had9_4
          try simp only [Int.toNat_natCast] at had9_4
          have hkL : k < L.length := by omega
          have hLk : l[(at_ + (k : Int)).toNat]'(by omega) = L[k] := by
            subst hL
            rw [List.getElem_drop]
            congr 1
            omega
          rw [hLk] at had9_4
          have hc8 := UInt8.toNat_lt L[k]
          have hacc := accV_lt L k
          refine WL.load Try.isAgg5 rfl (by assumption) rfl ?_
          refine WL.assign rfl rfl ?_
          refine WL.nil ?_
          refine WX.next ?_
          refine W.sub [(0, _), (1, _), (7, _), (8, _), (9, _), (18, _)] (.cons rfl (.cons rfl (.cons rfl (.cons rfl (.cons rfl (.cons rfl .nil)))))) ?_
          refine W.seq ?_
          refine W.block ?_
          refine W.seq ?_
          refine W.region ?_
          refine WL.move rfl rfl ?_
          refine WL.eqI rfl rfl rfl ?_
          refine WL.moveIf rfl rfl (fun c4 => ?_) (fun c4 => ?_)
          · refine WL.on rfl rfl ?_
            refine WL.move rfl rfl ?_
            refine WL.on rfl rfl ?_
            refine WL.gtr rfl rfl rfl ?_
            refine WL.pickT rfl rfl rfl ?_
            refine WL.assign rfl rfl ?_
            refine WL.nil ?_
            refine WX.next ?_
            refine W.sub [(0, _), (1, _), (7, _), (8, _), (9, _), (18, _), (33, _)] (.cons rfl (.cons rfl (.cons rfl (.cons rfl (.cons rfl (.cons rfl (.cons rfl .nil))))))) ?_
            refine W.ite rfl (fun c5 => ?_) (fun c5 => ?_)
            · refine W.exit ?_
              refine WX.blockPast rfl ?_
              refine WX.thenExit ?_
              refine WX.blockPast rfl ?_
              refine WX.thenExit ?_
              refine WX.thenExit ?_
              refine WX.blockHere ?_
              refine WX.next ?_
              refine W.seq ?_
              refine W.region ?_
              refine WL.assign rfl rfl ?_
              refine WL.assign rfl rfl ?_
              refine WL.assign rfl rfl ?_
              refine WL.nil ?_
              refine WX.next ?_
              refine W.sub [(4, _), (5, _), (6, _)] (.cons rfl (.cons rfl (.cons rfl .nil))) ?_
              refine W.ret ?_
              refine WX.scopeRet ?_
              refine WX.ret3 rfl rfl rfl rfl ?_
              exact ⟨by rw [rdU_bad h0 h1 (e := 10) (by rw [← hL]; first | exact H.bad (by omega) hkL (by omega) | (obtain rfl : k = 10 := (by omega); exact H.end_))]; rfl, rfl⟩
            · refine W.seq ?_
              refine W.region ?_
              refine WL.move rfl rfl ?_
              refine WL.eqI rfl rfl rfl ?_
              refine WL.moveIf rfl rfl (fun c6 => ?_) (fun c6 => ?_)
              · refine WL.on rfl rfl ?_
                refine WL.move rfl rfl ?_
                refine WL.on rfl rfl ?_
                refine WL.gtr rfl rfl rfl ?_
                refine WL.pickT rfl rfl rfl ?_
                refine WL.assign rfl rfl ?_
                refine WL.nil ?_
                refine WX.next ?_
                refine W.sub [(0, _), (1, _), (7, _), (8, _), (9, _), (18, _), (40, _)] (.cons rfl (.cons rfl (.cons rfl (.cons rfl (.cons rfl (.cons rfl (.cons rfl .nil))))))) ?_
                refine W.ite rfl (fun c7 => ?_) (fun c7 => ?_)
                · refine W.exit ?_
                  refine WX.blockPast rfl ?_
                  refine WX.thenExit ?_
                  refine WX.blockPast rfl ?_
                  refine WX.thenExit ?_
                  refine WX.thenExit ?_
                  refine WX.blockHere ?_
                  refine WX.next ?_
                  refine W.seq ?_
                  refine W.region ?_
                  refine WL.assign rfl rfl ?_
                  refine WL.assign rfl rfl ?_
                  refine WL.assign rfl rfl ?_
                  refine WL.nil ?_
                  refine WX.next ?_
                  refine W.sub [(4, _), (5, _), (6, _)] (.cons rfl (.cons rfl (.cons rfl .nil))) ?_
                  refine W.ret ?_
                  refine WX.scopeRet ?_
                  refine WX.ret3 rfl rfl rfl rfl ?_
                  exact ⟨by rw [rdU_bad h0 h1 (e := 10) (by rw [← hL]; first | exact H.bad (by omega) hkL (by omega) | (obtain rfl : k = 10 := (by omega); exact H.end_))]; rfl, rfl⟩
                · refine W.skip ?_
                  refine WX.blockNormal ?_
                  refine WX.next ?_
                  refine W.seq ?_
                  refine W.region ?_
                  have hbad : ¬ ((k = 9 ∧ 1 < L[k].toNat) ∨ (L[k].toNat = 0 ∧ 0 < k)) := by omega
                  have hf := fits7 (k := k) (x := L[k].toNat % 128) (by omega) (by omega) (by omega)
                  refine WL.move rfl rfl ?_
                  refine WL.move rfl rfl ?_
                  refine WL.band rfl rfl (and127B _ (by omega)) rfl ?_
                  refine WL.conv Try.underlying5 Try.underlying29 rfl (by first | exact wU64 (by omega) | exact mU64 _ | rfl) rfl ?_
                  refine WL.move rfl rfl ?_
                  refine WL.mul rfl rfl (by first | exact wI64 (by omega) | rfl) rfl ?_
                  refine WL.shl rfl rfl (by omega) (by show _ ≤ (64 : Int); omega) (shl7 hf) rfl ?_
                  refine WL.bor rfl rfl (or7 hacc hf) rfl ?_
                  refine WL.assign rfl rfl ?_
                  refine WL.nil ?_
                  refine WX.next ?_
                  refine W.sub [(0, _), (1, _), (7, _), (8, _), (9, _), (18, _)] (.cons rfl (.cons rfl (.cons rfl (.cons rfl (.cons rfl (.cons rfl .nil)))))) ?_
                  refine W.seq ?_
                  refine W.region ?_
                  refine WL.move rfl rfl ?_
                  refine WL.lss rfl rfl rfl ?_
                  refine WL.nil ?_
                  refine WX.next ?_
                  refine W.sub [(0, _), (1, _), (7, _), (8, _), (18, _), (56, _)] (.cons rfl (.cons rfl (.cons rfl (.cons rfl (.cons rfl (.cons rfl .nil)))))) ?_
                  refine W.ite rfl (fun c8 => ?_) (fun c8 => ?_)
                  · refine W.seq ?_
                    refine W.region ?_
                    refine WL.move rfl rfl ?_
                    refine WL.move rfl rfl ?_
                    refine WL.move rfl rfl ?_
                    refine WL.add rfl rfl (by first | exact wI64 (by omega) | rfl) rfl ?_
                    refine WL.add rfl rfl (by first | exact wI64 (by omega) | rfl) rfl ?_
                    refine WL.assign rfl rfl ?_
                    refine WL.assign rfl rfl ?_
                    refine WL.assign rfl rfl ?_
                    refine WL.nil ?_
                    refine WX.next ?_
                    refine W.sub [(4, _), (5, _), (6, _)] (.cons rfl (.cons rfl (.cons rfl .nil))) ?_
                    refine W.ret ?_
                    refine WX.blockRet ?_
                    refine WX.thenRet ?_
                    refine WX.thenRet ?_
                    refine WX.blockRet ?_
                    refine WX.thenRet ?_
                    refine WX.scopeRet ?_
                    refine WX.ret3 rfl rfl rfl rfl ?_
                    exact ⟨by rw [rdU_ok h0 h1 (by rw [← hL]; exact H.done (by omega) hkL hbad (by omega))]; exact rdUv_mk (by rw [Nat.mod_eq_of_lt (by omega)]) (by omega) rfl, rfl⟩
                  · refine W.skip ?_
                    refine WX.blockNormal ?_
                    refine WX.next ?_
                    refine W.region ?_
                    refine WL.add rfl rfl (by first | exact wI64 (by omega) | rfl) rfl ?_
                    refine WL.move rfl rfl ?_
                    refine WL.nil ?_
                    have hstep : accV L (k + 1) = accV L k + 128 ^ k * (L[k].toNat % 128) := by
                      rw [accV_succ, show L[k]?.getD 0 = L[k] by simp [hkL], show L[k].toNat - 128 = L[k].toNat % 128 by omega]
                    rw [← hstep]
                    refine WX.round (k + 1) (by (repeat' (first | exact envSub.nil | refine envSub.cons ?_ ?_)) <;> first | rfl | (refine congrArg some ?_; refine congrArg (Value.int _) ?_; first | omega | (dsimp only; omega)) | (simp; done) | (refine congrArg some ?_; dsimp only; congr 1; omega) | (simp; omega)) ⟨rfl, H.step (by omega) hkL hbad (by omega), h0, h1⟩ (by first | omega | (dsimp only; omega))
              · refine WL.off rfl rfl rfl rfl ?_
                refine WL.off rfl rfl rfl rfl ?_
                refine WL.pickF rfl rfl rfl ?_
                refine WL.assign rfl rfl ?_
                refine WL.nil ?_
                refine WX.next ?_
                refine W.sub [(0, _), (1, _), (7, _), (8, _), (9, _), (18, _), (40, _)] (.cons rfl (.cons rfl (.cons rfl (.cons rfl (.cons rfl (.cons rfl (.cons rfl .nil))))))) ?_
                refine W.condF rfl ?_
                refine W.skip ?_
                refine WX.blockNormal ?_
                refine WX.next ?_
                refine W.seq ?_
                refine W.region ?_
                have hbad : ¬ ((k = 9 ∧ 1 < L[k].toNat) ∨ (L[k].toNat = 0 ∧ 0 < k)) := by omega
                have hf := fits7 (k := k) (x := L[k].toNat % 128) (by omega) (by omega) (by omega)
                refine WL.move rfl rfl ?_
                refine WL.move rfl rfl ?_
                refine WL.band rfl rfl (and127B _ (by omega)) rfl ?_
                refine WL.conv Try.underlying5 Try.underlying29 rfl (by first | exact wU64 (by omega) | exact mU64 _ | rfl) rfl ?_
                refine WL.move rfl rfl ?_
                refine WL.mul rfl rfl (by first | exact wI64 (by omega) | rfl) rfl ?_
                refine WL.shl rfl rfl (by omega) (by show _ ≤ (64 : Int); omega) (shl7 hf) rfl ?_
                refine WL.bor rfl rfl (or7 hacc hf) rfl ?_
                refine WL.assign rfl rfl ?_
                refine WL.nil ?_
                refine WX.next ?_
                refine W.sub [(0, _), (1, _), (7, _), (8, _), (9, _), (18, _)] (.cons rfl (.cons rfl (.cons rfl (.cons rfl (.cons rfl (.cons rfl .nil)))))) ?_
                refine W.seq ?_
                refine W.region ?_
                refine WL.move rfl rfl ?_
                refine WL.lss rfl rfl rfl ?_
                refine WL.nil ?_
                refine WX.next ?_
                refine W.sub [(0, _), (1, _), (7, _), (8, _), (18, _), (56, _)] (.cons rfl (.cons rfl (.cons rfl (.cons rfl (.cons rfl (.cons rfl .nil)))))) ?_
                refine W.ite rfl (fun c8 => ?_) (fun c8 => ?_)
                · refine W.seq ?_
                  refine W.region ?_
                  refine WL.move rfl rfl ?_
                  refine WL.move rfl rfl ?_
                  refine WL.move rfl rfl ?_
                  refine WL.add rfl rfl (by first | exact wI64 (by omega) | rfl) rfl ?_
                  refine WL.add rfl rfl (by first | exact wI64 (by omega) | rfl) rfl ?_
                  refine WL.assign rfl rfl ?_
                  refine WL.assign rfl rfl ?_
                  refine WL.assign rfl rfl ?_
                  refine WL.nil ?_
                  refine WX.next ?_
                  refine W.sub [(4, _), (5, _), (6, _)] (.cons rfl (.cons rfl (.cons rfl .nil))) ?_
                  refine W.ret ?_
                  refine WX.blockRet ?_
                  refine WX.thenRet ?_
                  refine WX.thenRet ?_
                  refine WX.blockRet ?_
                  refine WX.thenRet ?_
                  refine WX.scopeRet ?_
                  refine WX.ret3 rfl rfl rfl rfl ?_
                  exact ⟨by rw [rdU_ok h0 h1 (by rw [← hL]; exact H.done (by omega) hkL hbad (by omega))]; exact rdUv_mk (by rw [Nat.mod_eq_of_lt (by omega)]) (by omega) rfl, rfl⟩
                · refine W.skip ?_
                  refine WX.blockNormal ?_
                  refine WX.next ?_
                  refine W.region ?_
                  refine WL.add rfl rfl (by first | exact wI64 (by omega) | rfl) rfl ?_
                  refine WL.move rfl rfl ?_
                  refine WL.nil ?_
                  have hstep : accV L (k + 1) = accV L k + 128 ^ k * (L[k].toNat % 128) := by
                    rw [accV_succ, show L[k]?.getD 0 = L[k] by simp [hkL], show L[k].toNat - 128 = L[k].toNat % 128 by omega]
                  rw [← hstep]
                  refine WX.round (k + 1) (by (repeat' (first | exact envSub.nil | refine envSub.cons ?_ ?_)) <;> first | rfl | (refine congrArg some ?_; refine congrArg (Value.int _) ?_; first | omega | (dsimp only; omega)) | (simp; done) | (refine congrArg some ?_; dsimp only; congr 1; omega) | (simp; omega)) ⟨rfl, H.step (by omega) hkL hbad (by omega), h0, h1⟩ (by first | omega | (dsimp only; omega))
          · refine WL.off rfl rfl rfl rfl ?_
            refine WL.off rfl rfl rfl rfl ?_
            refine WL.pickF rfl rfl rfl ?_
            refine WL.assign rfl rfl ?_
            refine WL.nil ?_
            refine WX.next ?_
            refine W.sub [(0, _), (1, _), (7, _), (8, _), (9, _), (18, _), (33, _)] (.cons rfl (.cons rfl (.cons rfl (.cons rfl (.cons rfl (.cons rfl (.cons rfl .nil))))))) ?_
            refine W.condF rfl ?_
            refine W.seq ?_
            refine W.region ?_
            refine WL.move rfl rfl ?_
            refine WL.eqI rfl rfl rfl ?_
            refine WL.moveIf rfl rfl (fun c6 => ?_) (fun c6 => ?_)
            · refine WL.on rfl rfl ?_
              refine WL.move rfl rfl ?_
              refine WL.on rfl rfl ?_
              refine WL.gtr rfl rfl rfl ?_
              refine WL.pickT rfl rfl rfl ?_
              refine WL.assign rfl rfl ?_
              refine WL.nil ?_
              refine WX.next ?_
              refine W.sub [(0, _), (1, _), (7, _), (8, _), (9, _), (18, _), (40, _)] (.cons rfl (.cons rfl (.cons rfl (.cons rfl (.cons rfl (.cons rfl (.cons rfl .nil))))))) ?_
              refine W.ite rfl (fun c7 => ?_) (fun c7 => ?_)
              · refine W.exit ?_
                refine WX.blockPast rfl ?_
                refine WX.thenExit ?_
                refine WX.blockPast rfl ?_
                refine WX.thenExit ?_
                refine WX.thenExit ?_
                refine WX.blockHere ?_
                refine WX.next ?_
                refine W.seq ?_
                refine W.region ?_
                refine WL.assign rfl rfl ?_
                refine WL.assign rfl rfl ?_
                refine WL.assign rfl rfl ?_
                refine WL.nil ?_
                refine WX.next ?_
                refine W.sub [(4, _), (5, _), (6, _)] (.cons rfl (.cons rfl (.cons rfl .nil))) ?_
                refine W.ret ?_
                refine WX.scopeRet ?_
                refine WX.ret3 rfl rfl rfl rfl ?_
                exact ⟨by rw [rdU_bad h0 h1 (e := 10) (by rw [← hL]; first | exact H.bad (by omega) hkL (by omega) | (obtain rfl : k = 10 := (by omega); exact H.end_))]; rfl, rfl⟩
              · refine W.skip ?_
                refine WX.blockNormal ?_
                refine WX.next ?_
                refine W.seq ?_
                refine W.region ?_
                have hbad : ¬ ((k = 9 ∧ 1 < L[k].toNat) ∨ (L[k].toNat = 0 ∧ 0 < k)) := by omega
                have hf := fits7 (k := k) (x := L[k].toNat % 128) (by omega) (by omega) (by omega)
                refine WL.move rfl rfl ?_
                refine WL.move rfl rfl ?_
                refine WL.band rfl rfl (and127B _ (by omega)) rfl ?_
                refine WL.conv Try.underlying5 Try.underlying29 rfl (by first | exact wU64 (by omega) | exact mU64 _ | rfl) rfl ?_
                refine WL.move rfl rfl ?_
                refine WL.mul rfl rfl (by first | exact wI64 (by omega) | rfl) rfl ?_
                refine WL.shl rfl rfl (by omega) (by show _ ≤ (64 : Int); omega) (shl7 hf) rfl ?_
                refine WL.bor rfl rfl (or7 hacc hf) rfl ?_
                refine WL.assign rfl rfl ?_
                refine WL.nil ?_
                refine WX.next ?_
                refine W.sub [(0, _), (1, _), (7, _), (8, _), (9, _), (18, _)] (.cons rfl (.cons rfl (.cons rfl (.cons rfl (.cons rfl (.cons rfl .nil)))))) ?_
                refine W.seq ?_
                refine W.region ?_
                refine WL.move rfl rfl ?_
                refine WL.lss rfl rfl rfl ?_
                refine WL.nil ?_
                refine WX.next ?_
                refine W.sub [(0, _), (1, _), (7, _), (8, _), (18, _), (56, _)] (.cons rfl (.cons rfl (.cons rfl (.cons rfl (.cons rfl (.cons rfl .nil)))))) ?_
                refine W.ite rfl (fun c8 => ?_) (fun c8 => ?_)
                · refine W.seq ?_
                  refine W.region ?_
                  refine WL.move rfl rfl ?_
                  refine WL.move rfl rfl ?_
                  refine WL.move rfl rfl ?_
                  refine WL.add rfl rfl (by first | exact wI64 (by omega) | rfl) rfl ?_
                  refine WL.add rfl rfl (by first | exact wI64 (by omega) | rfl) rfl ?_
                  refine WL.assign rfl rfl ?_
                  refine WL.assign rfl rfl ?_
                  refine WL.assign rfl rfl ?_
                  refine WL.nil ?_
                  refine WX.next ?_
                  refine W.sub [(4, _), (5, _), (6, _)] (.cons rfl (.cons rfl (.cons rfl .nil))) ?_
                  refine W.ret ?_
                  refine WX.blockRet ?_
                  refine WX.thenRet ?_
                  refine WX.thenRet ?_
                  refine WX.blockRet ?_
                  refine WX.thenRet ?_
                  refine WX.scopeRet ?_
                  refine WX.ret3 rfl rfl rfl rfl ?_
                  exact ⟨by rw [rdU_ok h0 h1 (by rw [← hL]; exact H.done (by omega) hkL hbad (by omega))]; exact rdUv_mk (by rw [Nat.mod_eq_of_lt (by omega)]) (by omega) rfl, rfl⟩
                · refine W.skip ?_
                  refine WX.blockNormal ?_
                  refine WX.next ?_
                  refine W.region ?_
                  refine WL.add rfl rfl (by first | exact wI64 (by omega) | rfl) rfl ?_
                  refine WL.move rfl rfl ?_
                  refine WL.nil ?_
                  have hstep : accV L (k + 1) = accV L k + 128 ^ k * (L[k].toNat % 128) := by
                    rw [accV_succ, show L[k]?.getD 0 = L[k] by simp [hkL], show L[k].toNat - 128 = L[k].toNat % 128 by omega]
                  rw [← hstep]
                  refine WX.round (k + 1) (by (repeat' (first | exact envSub.nil | refine envSub.cons ?_ ?_)) <;> first | rfl | (refine congrArg some ?_; refine congrArg (Value.int _) ?_; first | omega | (dsimp only; omega)) | (simp; done) | (refine congrArg some ?_; dsimp only; congr 1; omega) | (simp; omega)) ⟨rfl, H.step (by omega) hkL hbad (by omega), h0, h1⟩ (by first | omega | (dsimp only; omega))
            · refine WL.off rfl rfl rfl rfl ?_
              refine WL.off rfl rfl rfl rfl ?_
              refine WL.pickF rfl rfl rfl ?_
              refine WL.assign rfl rfl ?_
              refine WL.nil ?_
              refine WX.next ?_
              refine W.sub [(0, _), (1, _), (7, _), (8, _), (9, _), (18, _), (40, _)] (.cons rfl (.cons rfl (.cons rfl (.cons rfl (.cons rfl (.cons rfl (.cons rfl .nil))))))) ?_
              refine W.condF rfl ?_
              refine W.skip ?_
              refine WX.blockNormal ?_
              refine WX.next ?_
              refine W.seq ?_
              refine W.region ?_
              have hbad : ¬ ((k = 9 ∧ 1 < L[k].toNat) ∨ (L[k].toNat = 0 ∧ 0 < k)) := by omega
              have hf := fits7 (k := k) (x := L[k].toNat % 128) (by omega) (by omega) (by omega)
              refine WL.move rfl rfl ?_
              refine WL.move rfl rfl ?_
              refine WL.band rfl rfl (and127B _ (by omega)) rfl ?_
              refine WL.conv Try.underlying5 Try.underlying29 rfl (by first | exact wU64 (by omega) | exact mU64 _ | rfl) rfl ?_
              refine WL.move rfl rfl ?_
              refine WL.mul rfl rfl (by first | exact wI64 (by omega) | rfl) rfl ?_
              refine WL.shl rfl rfl (by omega) (by show _ ≤ (64 : Int); omega) (shl7 hf) rfl ?_
              refine WL.bor rfl rfl (or7 hacc hf) rfl ?_
              refine WL.assign rfl rfl ?_
              refine WL.nil ?_
              refine WX.next ?_
              refine W.sub [(0, _), (1, _), (7, _), (8, _), (9, _), (18, _)] (.cons rfl (.cons rfl (.cons rfl (.cons rfl (.cons rfl (.cons rfl .nil)))))) ?_
              refine W.seq ?_
              refine W.region ?_
              refine WL.move rfl rfl ?_
              refine WL.lss rfl rfl rfl ?_
              refine WL.nil ?_
              refine WX.next ?_
              refine W.sub [(0, _), (1, _), (7, _), (8, _), (18, _), (56, _)] (.cons rfl (.cons rfl (.cons rfl (.cons rfl (.cons rfl (.cons rfl .nil)))))) ?_
              refine W.ite rfl (fun c8 => ?_) (fun c8 => ?_)
              · refine W.seq ?_
                refine W.region ?_
                refine WL.move rfl rfl ?_
                refine WL.move rfl rfl ?_
                refine WL.move rfl rfl ?_
                refine WL.add rfl rfl (by first | exact wI64 (by omega) | rfl) rfl ?_
                refine WL.add rfl rfl (by first | exact wI64 (by omega) | rfl) rfl ?_
                refine WL.assign rfl rfl ?_
                refine WL.assign rfl rfl ?_
                refine WL.assign rfl rfl ?_
                refine WL.nil ?_
                refine WX.next ?_
                refine W.sub [(4, _), (5, _), (6, _)] (.cons rfl (.cons rfl (.cons rfl .nil))) ?_
                refine W.ret ?_
                refine WX.blockRet ?_
                refine WX.thenRet ?_
                refine WX.thenRet ?_
                refine WX.blockRet ?_
                refine WX.thenRet ?_
                refine WX.scopeRet ?_
                refine WX.ret3 rfl rfl rfl rfl ?_
                exact ⟨by rw [rdU_ok h0 h1 (by rw [← hL]; exact H.done (by omega) hkL hbad (by omega))]; exact rdUv_mk (by rw [Nat.mod_eq_of_lt (by omega)]) (by omega) rfl, rfl⟩
              · refine W.skip ?_
                refine WX.blockNormal ?_
                refine WX.next ?_
                refine W.region ?_
                refine WL.add rfl rfl (by first | exact wI64 (by omega) | rfl) rfl ?_
                refine WL.move rfl rfl ?_
                refine WL.nil ?_
                have hstep : accV L (k + 1) = accV L k + 128 ^ k * (L[k].toNat % 128) := by
                  rw [accV_succ, show L[k]?.getD 0 = L[k] by simp [hkL], show L[k].toNat - 128 = L[k].toNat % 128 by omega]
                rw [← hstep]
                refine WX.round (k + 1) (by (repeat' (first | exact envSub.nil | refine envSub.cons ?_ ?_)) <;> first | rfl | (refine congrArg some ?_; refine congrArg (Value.int _) ?_; first | omega | (dsimp only; omega)) | (simp; done) | (refine congrArg some ?_; dsimp only; congr 1; omega) | (simp; omega)) ⟨rfl, H.step (by omega) hkL hbad (by omega), h0, h1⟩ (by first | omega | (dsimp only; omega))
      · refine W.exit ?_
        refine WX.thenExit ?_
        refine WX.thenExit ?_
        refine WX.blockHere ?_
        refine WX.next ?_
        refine W.seq ?_
        refine W.region ?_
        refine WL.assign rfl rfl ?_
        refine WL.assign rfl rfl ?_
        refine WL.assign rfl rfl ?_
        refine WL.nil ?_
        refine WX.next ?_
        refine W.sub [(4, _), (5, _), (6, _)] (.cons rfl (.cons rfl (.cons rfl .nil))) ?_
        refine W.ret ?_
        refine WX.scopeRet ?_
        refine WX.ret3 rfl rfl rfl rfl ?_
        exact ⟨by rw [rdU_bad h0 h1 (e := 10) (by rw [← hL]; first | exact H.bad (by omega) hkL (by omega) | (obtain rfl : k = 10 := (by omega); exact H.end_))]; rfl, rfl⟩

theorem short_ok (A : Option Addr) (m cap : Nat) (at_ k : Int) (w : World) : Fn Try.prog 62 [.slice A m cap, .int .i64 at_, .int .i64 k] w fun v w' => v = rdUv (0, 0, if k = 10 then 11 else 10) ∧ w = w' := by
  refine Fn.enter Try.func62 rfl Try.ntmps62 rfl ?_
  refine W.sub [(0, _), (1, _), (2, _)] (.cons rfl (.cons rfl (.cons rfl .nil))) ?_
  refine W.seq ?_
  refine W.region ?_
  refine WL.assign rfl rfl ?_
  refine WL.assign rfl rfl ?_
  refine WL.assign rfl rfl ?_
  refine WL.nil ?_
  refine WX.next ?_
  refine W.sub [(2, _)] (.cons rfl .nil) ?_
  refine W.seq ?_
  refine W.seq ?_
  refine W.region ?_
  refine WL.move rfl rfl ?_
  refine WL.eqI rfl rfl rfl ?_
  refine WL.nil ?_
  refine WX.next ?_
  refine W.sub [(10, _)] (.cons rfl .nil) ?_
  refine W.ite rfl (fun c0 => ?_) (fun c0 => ?_)
  · refine W.seq ?_
    refine W.region ?_
    refine WL.assign rfl rfl ?_
    refine WL.assign rfl rfl ?_
    refine WL.assign rfl rfl ?_
    refine WL.nil ?_
    refine WX.next ?_
    refine W.sub [(6, _), (7, _), (8, _)] (.cons rfl (.cons rfl (.cons rfl .nil))) ?_
    refine W.ret ?_
    refine WX.thenRet ?_
    refine WX.ret3 rfl rfl rfl rfl ?_
    exact ⟨by rw [if_pos c0]; rfl, rfl⟩
  · refine W.skip ?_
    refine WX.next ?_
    refine W.seq ?_
    refine W.region ?_
    refine WL.assign rfl rfl ?_
    refine WL.assign rfl rfl ?_
    refine WL.assign rfl rfl ?_
    refine WL.nil ?_
    refine WX.next ?_
    refine W.sub [(6, _), (7, _), (8, _)] (.cons rfl (.cons rfl (.cons rfl .nil))) ?_
    refine W.ret ?_
    refine WX.ret3 rfl rfl rfl rfl ?_
    exact ⟨by rw [if_neg c0]; rfl, rfl⟩

theorem accV_horner {L : List UInt8} {i : Nat} (h : i < L.length) (v : Nat) : accV L (i + 1) + 128 ^ (i + 1) * v = accV L i + 128 ^ i * (v * 128 + (L[i].toNat - 128)) := by
  rw [accV_succ, show L[i]?.getD 0 = L[i] by simp [h], Nat.pow_succ, Nat.mul_add, Nat.mul_assoc, Nat.mul_comm 128 v]
  omega
theorem horner_lt {L : List UInt8} {i v x : Nat} (h : accV L i + 128 ^ i * (v * 128 + x) < 18446744073709551616) : v * 128 + x < 18446744073709551616 := by
  have hp : 0 < 128 ^ i := Nat.pow_pos (by decide)
  have := Nat.le_mul_of_pos_left (v * 128 + x) hp
  omega

/-- Reading back from the last byte: i bytes are left, v is what was read. -/
def Horner (L : List UInt8) (k i v : Nat) : Prop := accV L i + 128 ^ i * v = accV L k + 128 ^ k * (L[k]?.getD 0).toNat
theorem Horner.start {L : List UInt8} {k : Nat} (hk : k < L.length) : Horner L k k L[k].toNat := by
  unfold Horner
  rw [show L[k]?.getD 0 = L[k] by simp [hk]]
theorem Horner.step {L : List UInt8} {k i v : Nat} (h : Horner L k (i + 1) v) (hk : k < L.length) (hi : i < L.length) (h9 : k ≤ 9) (hx : L[k].toNat ≤ 127) (h1 : k = 9 → L[k].toNat ≤ 1) :
    Horner L k i (v * 128 + (L[i].toNat - 128)) ∧ v * 128 + (L[i].toNat - 128) < 18446744073709551616 := by
  unfold Horner at h ⊢
  have hx' := accV_horner hi v
  have hf := fits7 h9 hx h1
  have hacc := accV_lt L k
  rw [Nat.mul_comm _ (128 ^ k)] at hf
  rw [show L[k]?.getD 0 = L[k] by simp [hk]] at h ⊢
  rw [hx'] at h
  refine ⟨h, horner_lt (L := L) (i := i) ?_⟩
  rw [h]
  generalize 128 ^ k * L[k].toNat = X at *
  generalize 128 ^ k = Y at *
  generalize accV L k = Z at *
  omega
theorem Horner.done {L : List UInt8} {k v : Nat} (hk : k < L.length) (h : Horner L k 0 v) : v = accV L k + 128 ^ k * L[k].toNat := by
  unfold Horner at h
  rw [show L[k]?.getD 0 = L[k] by simp [hk]] at h
  simpa [accV_zero] using h

theorem refUint_ok (l : List UInt8) (A : Option Addr) (cap : Nat) (at_ : Int) (w : World) (h : RdB w A cap l) (hl : l.length ≤ 140737488355328) (ha : -9223372036854775808 ≤ at_ ∧ at_ ≤ 9223372036854775807) :
    Fn Try.prog 58 [.slice A l.length cap, .int .i64 at_] w fun v w' => v = rdUv (rdU l at_) ∧ w = w' := by
  refine Fn.enter Try.func58 rfl Try.ntmps58 rfl ?_
  refine W.sub [(0, _), (1, _)] (.cons rfl (.cons rfl .nil)) ?_
  obtain ⟨L, hL⟩ : ∃ L, L = l.drop at_.toNat := ⟨_, rfl⟩
  have hLk : ∀ (k : Nat) (hk : k < L.length) (hi : (at_ + (k : Int)).toNat < l.length), 0 ≤ at_ → l[(at_ + (k : Int)).toNat]'hi = L[k] := fun k hk hi h0 => by
    subst hL
    rw [List.getElem_drop]
    congr 1
    omega
  have hLl : L.length = l.length - at_.toNat := by rw [hL]; simp
  refine W.seq ?_
  refine W.region ?_
  refine WL.assign rfl rfl ?_
  refine WL.assign rfl rfl ?_
  refine WL.assign rfl rfl ?_
  refine WL.nil ?_
  refine WX.next ?_
  refine W.sub [(0, _), (1, _)] (.cons rfl (.cons rfl .nil)) ?_
  refine W.seq ?_
  refine W.seq ?_
  refine W.region ?_
  refine WL.move rfl rfl ?_
  refine WL.lss rfl rfl rfl ?_
  refine WL.moveIf rfl rfl (fun c0 => ?_) (fun c0 => ?_)
  · refine WL.off rfl rfl rfl rfl ?_
    refine WL.off rfl rfl rfl rfl ?_
    refine WL.off rfl rfl rfl rfl ?_
    refine WL.off rfl rfl rfl rfl ?_
    refine WL.pickT rfl rfl rfl ?_
    refine WL.nil ?_
    refine WX.next ?_
    refine W.sub [(0, _), (1, _), (18, _)] (.cons rfl (.cons rfl (.cons rfl .nil))) ?_
    refine W.condT rfl ?_
    refine W.seq ?_
    refine W.region ?_
    refine WL.assign rfl rfl ?_
    refine WL.assign rfl rfl ?_
    refine WL.assign rfl rfl ?_
    refine WL.nil ?_
    refine WX.next ?_
    refine W.sub [(4, _), (5, _), (6, _)] (.cons rfl (.cons rfl (.cons rfl .nil))) ?_
    refine W.ret ?_
    refine WX.thenRet ?_
    refine WX.ret3 rfl rfl rfl rfl ?_
    exact ⟨by rw [rdU_out (by omega)]; rfl, rfl⟩
  · refine WL.on rfl rfl ?_
    refine WL.move rfl rfl ?_
    refine WL.on rfl rfl ?_
    refine WL.move rfl rfl ?_
    refine WL.on rfl rfl ?_
    refine WL.len Try.underlying32 rfl rfl ?_
    refine WL.on rfl rfl ?_
    refine WL.gtr rfl rfl rfl ?_
    refine WL.pickF rfl rfl rfl ?_
    refine WL.nil ?_
    refine WX.next ?_
    refine W.sub [(0, _), (1, _), (18, _)] (.cons rfl (.cons rfl (.cons rfl .nil))) ?_
    refine W.ite rfl (fun c1 => ?_) (fun c1 => ?_)
    · refine W.seq ?_
      refine W.region ?_
      refine WL.assign rfl rfl ?_
      refine WL.assign rfl rfl ?_
      refine WL.assign rfl rfl ?_
      refine WL.nil ?_
      refine WX.next ?_
      refine W.sub [(4, _), (5, _), (6, _)] (.cons rfl (.cons rfl (.cons rfl .nil))) ?_
      refine W.ret ?_
      refine WX.thenRet ?_
      refine WX.ret3 rfl rfl rfl rfl ?_
      exact ⟨by rw [rdU_out (by omega)]; rfl, rfl⟩
    · refine W.skip ?_
      refine WX.next ?_
      refine W.seq ?_
      refine W.region ?_
      refine WL.assign rfl rfl ?_
      refine WL.nil ?_
      refine WX.next ?_
      refine W.sub [(0, _), (1, _), (7, _)] (.cons rfl (.cons rfl (.cons rfl .nil))) ?_
      refine W.joint (fun (k : Nat) => [(0, .slice A l.length cap), (1, .int .i64 at_), (7, .int .i64 (k : Int))]) (fun k w' => w = w' ∧ 0 ≤ at_ ∧ at_ ≤ l.length ∧ k ≤ 10 ∧ k ≤ L.length ∧ (∀ j, (h : j < L.length) → j < k → 128 ≤ L[j].toNat) ∧ (k < 10 → (h : k < L.length) → L[k].toNat < 128)) ?_ ?_
      · refine W.block ?_
        refine W.loop (ι := Nat) (fun k => [(0, .slice A l.length cap), (1, .int .i64 at_), (7, .int .i64 (k : Int))]) (fun k w' => w = w' ∧ 0 ≤ at_ ∧ at_ ≤ l.length ∧ k ≤ 10 ∧ k ≤ L.length ∧ (∀ j, (h : j < L.length) → j < k → 128 ≤ L[j].toNat)) (fun k => 10 - k) (0) (by (repeat' (first | exact envSub.nil | refine envSub.cons ?_ ?_)) <;> first | rfl | (refine congrArg some ?_; refine congrArg (Value.int _) ?_; first | omega | (dsimp only; omega)) | (simp; done) | (refine congrArg some ?_; dsimp only; congr 1; omega) | (simp; omega)) ⟨rfl, by omega, by omega, by omega, by omega, fun j _ hj => by omega⟩ ?_
        rintro k _ ⟨rfl, h0, h1, hk, hkL, hm⟩
        refine W.sub [(0, _), (1, _), (7, _)] (.cons rfl (.cons rfl (.cons rfl .nil))) ?_
        refine W.seq ?_
        refine W.seq ?_
        refine W.region ?_
        refine WL.move rfl rfl ?_
        refine WL.lss rfl rfl rfl ?_
        refine WL.moveIf rfl rfl (fun c2 => ?_) (fun c2 => ?_)
        · refine WL.on rfl rfl ?_
          refine WL.move rfl rfl ?_
          refine WL.on rfl rfl ?_
          refine WL.move rfl rfl ?_
          refine WL.on rfl rfl ?_
          refine WL.add rfl rfl (by first | exact wI64 (by omega) | rfl) rfl ?_
          refine WL.on rfl rfl ?_
          refine WL.move rfl rfl ?_
          refine WL.on rfl rfl ?_
          refine WL.len Try.underlying32 rfl rfl ?_
          refine WL.on rfl rfl ?_
          refine WL.lss rfl rfl rfl ?_
          refine WL.pickT rfl rfl rfl ?_
          refine WL.moveIf rfl rfl (fun c3 => ?_) (fun c3 => ?_)
          · refine WL.on rfl rfl ?_
            refine WL.move rfl rfl ?_
            refine WL.on rfl rfl ?_
            refine WL.move rfl rfl ?_
            refine WL.on rfl rfl ?_
            refine WL.move rfl rfl ?_
            refine WL.on rfl rfl ?_
            refine WL.add rfl rfl (by first | exact wI64 (by omega) | rfl) rfl ?_
            refine WL.on rfl rfl ?_
            refine WL.idxB Try.underlying32 Try.sizeOf5 rfl rfl (by assumption) rfl (by omega) (by omega) rfl ?_
            intro ad4_15 had4_15
            try simp only [Int.toNat_natCast] at had4_15
            have hkL' : k < L.length := by omega
            rw [hLk k hkL' (by omega) h0] at had4_15
            refine WL.on rfl rfl ?_
            refine WL.load Try.isAgg5 rfl (by assumption) rfl ?_
            refine WL.on rfl rfl ?_
            refine WL.geq rfl rfl rfl ?_
            refine WL.pickT rfl rfl rfl ?_
            refine WL.nil ?_
            refine WX.next ?_
            refine W.sub [(0, _), (1, _), (7, _), (37, _)] (.cons rfl (.cons rfl (.cons rfl (.cons rfl .nil)))) ?_
            refine W.ite rfl (fun c4 => ?_) (fun c4 => ?_)
            · refine W.skip ?_
              refine WX.next ?_
              refine W.block ?_
              refine W.region ?_
              refine WL.move rfl rfl ?_
              refine WL.add rfl rfl (by first | exact wI64 (by omega) | rfl) rfl ?_
              refine WL.assign rfl rfl ?_
              refine WL.nil ?_
              refine WX.blockNormal ?_
              refine WX.round (k + 1) (by (repeat' (first | exact envSub.nil | refine envSub.cons ?_ ?_)) <;> first | rfl | (refine congrArg some ?_; refine congrArg (Value.int _) ?_; first | omega | (dsimp only; omega)) | (simp; done) | (refine congrArg some ?_; dsimp only; congr 1; omega) | (simp; omega)) ⟨rfl, h0, h1, by omega, by omega, fun j hj hjk => by rcases Nat.lt_or_ge j k with h2 | h2; exact hm j hj h2; obtain rfl : j = k := (by omega); omega⟩ (by first | omega | (dsimp only; omega))
            · refine W.exit ?_
              refine WX.thenExit ?_
              refine WX.thenExit ?_
              refine WX.blockHere ?_
              refine WX.join (k) (by (repeat' (first | exact envSub.nil | refine envSub.cons ?_ ?_)) <;> first | rfl | (refine congrArg some ?_; refine congrArg (Value.int _) ?_; first | omega | (dsimp only; omega)) | (simp; done) | (refine congrArg some ?_; dsimp only; congr 1; omega) | (simp; omega)) ⟨rfl, h0, h1, hk, hkL, hm, by first | (intro h2 h3; omega) | (intro h2 h3; exact absurd h2 (by omega))⟩
          · refine WL.off rfl rfl rfl rfl ?_
            refine WL.off rfl rfl rfl rfl ?_
            refine WL.off rfl rfl rfl rfl ?_
            refine WL.off rfl rfl rfl rfl ?_
            refine WL.off rfl rfl rfl rfl ?_
            refine WL.off rfl rfl rfl rfl ?_
            refine WL.off rfl rfl rfl rfl ?_
            refine WL.pickF rfl rfl rfl ?_
            refine WL.nil ?_
            refine WX.next ?_
            refine W.sub [(0, _), (1, _), (7, _), (37, _)] (.cons rfl (.cons rfl (.cons rfl (.cons rfl .nil)))) ?_
            refine W.condF rfl ?_
            refine W.exit ?_
            refine WX.thenExit ?_
            refine WX.thenExit ?_
            refine WX.blockHere ?_
            refine WX.join (k) (by (repeat' (first | exact envSub.nil | refine envSub.cons ?_ ?_)) <;> first | rfl | (refine congrArg some ?_; refine congrArg (Value.int _) ?_; first | omega | (dsimp only; omega)) | (simp; done) | (refine congrArg some ?_; dsimp only; congr 1; omega) | (simp; omega)) ⟨rfl, h0, h1, hk, hkL, hm, by first | (intro h2 h3; omega) | (intro h2 h3; exact absurd h2 (by omega))⟩
        · refine WL.off rfl rfl rfl rfl ?_
          refine WL.off rfl rfl rfl rfl ?_
          refine WL.off rfl rfl rfl rfl ?_
          refine WL.off rfl rfl rfl rfl ?_
          refine WL.off rfl rfl rfl rfl ?_
          refine WL.off rfl rfl rfl rfl ?_
          refine WL.pickF rfl rfl rfl ?_
          refine WL.move rfl rfl ?_
          refine WL.off rfl rfl rfl rfl ?_
          refine WL.off rfl rfl rfl rfl ?_
          refine WL.off rfl rfl rfl rfl ?_
          refine WL.off rfl rfl rfl rfl ?_
          refine WL.off rfl rfl rfl rfl ?_
          refine WL.off rfl rfl rfl rfl ?_
          refine WL.off rfl rfl rfl rfl ?_
          refine WL.pickF rfl rfl rfl ?_
          refine WL.nil ?_
          refine WX.next ?_
          refine W.sub [(0, _), (1, _), (7, _), (37, _)] (.cons rfl (.cons rfl (.cons rfl (.cons rfl .nil)))) ?_
          refine W.condF rfl ?_
          refine W.exit ?_
          refine WX.thenExit ?_
          refine WX.thenExit ?_
          refine WX.blockHere ?_
          refine WX.join (k) (by (repeat' (first | exact envSub.nil | refine envSub.cons ?_ ?_)) <;> first | rfl | (refine congrArg some ?_; refine congrArg (Value.int _) ?_; first | omega | (dsimp only; omega)) | (simp; done) | (refine congrArg some ?_; dsimp only; congr 1; omega) | (simp; omega)) ⟨rfl, h0, h1, hk, hkL, hm, by first | (intro h2 h3; omega) | (intro h2 h3; exact absurd h2 (by omega))⟩
      rintro k _ ⟨rfl, h0, h1, hk, hkL, hm, hs⟩
      refine W.sub [(0, _), (1, _), (7, _)] (.cons rfl (.cons rfl (.cons rfl .nil))) ?_
      refine W.seq ?_
      refine W.block ?_
      refine W.seq ?_
      refine W.region ?_
      refine WL.move rfl rfl ?_
      refine WL.eqI rfl rfl rfl ?_
      refine WL.assign rfl rfl ?_
      refine WL.nil ?_
      refine WX.next ?_
      refine W.sub [(0, _), (1, _), (7, _), (40, _)] (.cons rfl (.cons rfl (.cons rfl (.cons rfl .nil)))) ?_
      refine W.ite rfl (fun c5 => ?_) (fun c5 => ?_)
      · refine W.seq ?_
        refine W.region ?_
        refine WL.assign rfl rfl ?_
        refine WL.assign rfl rfl ?_
        refine WL.assign rfl rfl ?_
        refine WL.nil ?_
        refine WX.next ?_
        refine W.sub [(4, _), (5, _), (6, _)] (.cons rfl (.cons rfl (.cons rfl .nil))) ?_
        refine W.ret ?_
        refine WX.blockRet ?_
        refine WX.thenRet ?_
        refine WX.ret3 rfl rfl rfl rfl ?_
        obtain rfl : k = 10 := by omega
        have H := Inv.of_marked (l := L) 9 (by omega) (by omega) (fun j hj hn => hm j hj (by omega))
        have h9 := hm 9 (by omega) (by omega)
        exact ⟨by rw [rdU_bad h0 h1 (e := 10) (by rw [← hL]; exact H.bad (by omega) (by omega) (by omega))]; rfl, rfl⟩
      · refine W.seq ?_
        refine W.region ?_
        have H := Inv.of_marked (l := L) k (by omega) (by omega) hm
        refine WL.move rfl rfl ?_
        refine WL.move rfl rfl ?_
        refine WL.add rfl rfl (by first | exact wI64 (by omega) | rfl) rfl ?_
        refine WL.move rfl rfl ?_
        refine WL.len Try.underlying32 rfl rfl ?_
        refine WL.geq rfl rfl rfl ?_
        refine WL.assign rfl rfl ?_
        refine WL.nil ?_
        refine WX.next ?_
        refine W.sub [(0, _), (1, _), (7, _), (43, _)] (.cons rfl (.cons rfl (.cons rfl (.cons rfl .nil)))) ?_
        refine W.ite rfl (fun c6 => ?_) (fun c6 => ?_)
        · refine W.seq ?_
          refine W.region ?_
          refine WL.move rfl rfl ?_
          refine WL.move rfl rfl ?_
          refine WL.move rfl rfl ?_
          refine WL.call Try.call62 rfl (short_ok _ _ _ _ _ _) rfl ?_
          rintro _ _ ⟨rfl, rfl⟩
          rw [if_neg c5]
          refine WL.extract rfl rfl rfl ?_
          refine WL.extract rfl rfl rfl ?_
          refine WL.extract rfl rfl rfl ?_
          refine WL.assign rfl rfl ?_
          refine WL.assign rfl rfl ?_
          refine WL.assign rfl rfl ?_
          refine WL.nil ?_
          refine WX.next ?_
          refine W.sub [(4, _), (5, _), (6, _)] (.cons rfl (.cons rfl (.cons rfl .nil))) ?_
          refine W.ret ?_
          refine WX.blockRet ?_
          refine WX.thenRet ?_
          refine WX.ret3 rfl rfl rfl rfl ?_
          exact ⟨by rw [rdU_bad h0 h1 (e := 9) (by rw [← hL]; exact H.short (by omega) (by omega))]; rfl, rfl⟩
        · refine W.skip ?_
          refine WX.blockNormal ?_
          refine WX.next ?_
          refine W.seq ?_
          refine W.region ?_
          refine WL.move rfl rfl ?_
          refine WL.move rfl rfl ?_
          refine WL.move rfl rfl ?_
          refine WL.add rfl rfl (by first | exact wI64 (by omega) | rfl) rfl ?_
          refine WL.idxB Try.underlying32 Try.sizeOf5 rfl rfl (by assumption) rfl (by omega) (by omega) rfl ?_
          intro ad10_4 had10_4
          try simp only [Int.toNat_natCast] at had10_4
          have hkL' : k < L.length := by omega
          rw [hLk k hkL' (by omega) h0] at had10_4
          have hs' := hs (by omega) hkL'
          refine WL.load Try.isAgg5 rfl (by assumption) rfl ?_
          refine WL.assign rfl rfl ?_
          refine WL.nil ?_
          refine WX.next ?_
          refine W.sub [(0, _), (1, _), (7, _), (8, _)] (.cons rfl (.cons rfl (.cons rfl (.cons rfl .nil)))) ?_
          refine W.seq ?_
          refine W.seq ?_
          refine W.region ?_
          refine WL.move rfl rfl ?_
          refine WL.gtr rfl rfl rfl ?_
          refine WL.moveIf rfl rfl (fun c7 => ?_) (fun c7 => ?_)
          · refine WL.on rfl rfl ?_
            refine WL.move rfl rfl ?_
            refine WL.on rfl rfl ?_
            refine WL.eqI rfl rfl rfl ?_
            refine WL.pickT rfl rfl rfl ?_
            refine WL.moveIf rfl rfl (fun c8 => ?_) (fun c8 => ?_)
            · refine WL.off rfl rfl rfl rfl ?_
              refine WL.off rfl rfl rfl rfl ?_
              refine WL.off rfl rfl rfl rfl ?_
              refine WL.offU rfl rfl rfl ?_
              refine WL.offU rfl rfl rfl ?_
              refine WL.off rfl rfl rfl rfl ?_
              refine WL.pickT rfl rfl rfl ?_
              refine WL.nil ?_
              refine WX.next ?_
              refine W.sub [(0, _), (1, _), (7, _), (8, _), (76, _)] (.cons rfl (.cons rfl (.cons rfl (.cons rfl (.cons rfl .nil))))) ?_
              refine W.condT rfl ?_
              refine W.seq ?_
              refine W.region ?_
              refine WL.assign rfl rfl ?_
              refine WL.assign rfl rfl ?_
              refine WL.assign rfl rfl ?_
              refine WL.nil ?_
              refine WX.next ?_
              refine W.sub [(4, _), (5, _), (6, _)] (.cons rfl (.cons rfl (.cons rfl .nil))) ?_
              refine W.ret ?_
              refine WX.thenRet ?_
              refine WX.ret3 rfl rfl rfl rfl ?_
              exact ⟨by rw [rdU_bad h0 h1 (e := 10) (by rw [← hL]; exact H.bad (by omega) (by omega) (by omega))]; rfl, rfl⟩
            · refine WL.on rfl rfl ?_
              refine WL.move rfl rfl ?_
              refine WL.on rfl rfl ?_
              refine WL.eqI rfl rfl rfl ?_
              refine WL.on rfl rfl ?_
              refine WL.moveIf rfl rfl (fun c9 => ?_) (fun c9 => ?_)
              · refine WL.on rfl rfl ?_
                refine WL.move rfl rfl ?_
                refine WL.on rfl rfl ?_
                refine WL.gtr rfl rfl rfl ?_
                refine WL.on rfl rfl ?_
                refine WL.pickT rfl rfl rfl ?_
                refine WL.pickF rfl rfl rfl ?_
                refine WL.nil ?_
                refine WX.next ?_
                refine W.sub [(0, _), (1, _), (7, _), (8, _), (76, _)] (.cons rfl (.cons rfl (.cons rfl (.cons rfl (.cons rfl .nil))))) ?_
                refine W.ite rfl (fun c10 => ?_) (fun c10 => ?_)
                · refine W.seq ?_
                  refine W.region ?_
                  refine WL.assign rfl rfl ?_
                  refine WL.assign rfl rfl ?_
                  refine WL.assign rfl rfl ?_
                  refine WL.nil ?_
                  refine WX.next ?_
                  refine W.sub [(4, _), (5, _), (6, _)] (.cons rfl (.cons rfl (.cons rfl .nil))) ?_
                  refine W.ret ?_
                  refine WX.thenRet ?_
                  refine WX.ret3 rfl rfl rfl rfl ?_
                  exact ⟨by rw [rdU_bad h0 h1 (e := 10) (by rw [← hL]; exact H.bad (by omega) (by omega) (by omega))]; rfl, rfl⟩
                · refine W.skip ?_
                  refine WX.next ?_
                  refine W.seq ?_
                  refine W.region ?_
                  refine WL.move rfl rfl ?_
                  refine WL.conv Try.underlying5 Try.underlying29 rfl (by first | exact wU64 (by omega) | exact mU64 _ | rfl) rfl ?_
                  refine WL.assign rfl rfl ?_
                  refine WL.nil ?_
                  refine WX.next ?_
                  refine W.sub [(0, _), (1, _), (7, _), (9, _)] (.cons rfl (.cons rfl (.cons rfl (.cons rfl .nil)))) ?_
                  refine W.seq ?_
                  refine W.seq ?_
                  refine W.region ?_
                  refine WL.move rfl rfl ?_
                  refine WL.sub' rfl rfl (by first | exact wI64 (by omega) | rfl) rfl ?_
                  refine WL.assign rfl rfl ?_
                  refine WL.nil ?_
                  refine WX.next ?_
                  refine W.sub [(0, _), (1, _), (7, _), (9, _), (10, _)] (.cons rfl (.cons rfl (.cons rfl (.cons rfl (.cons rfl .nil))))) ?_
                  refine W.block ?_
                  refine W.loop (ι := Nat × Nat) (fun j => [(0, .slice A l.length cap), (1, .int .i64 at_), (7, .int .i64 (k : Int)), (9, .int .u64 (j.2 : Int)), (10, .int .i64 ((j.1 : Int) - 1))]) (fun j w' => w = w' ∧ j.1 ≤ k ∧ Horner L k j.1 j.2) (fun j => j.1) ((k, L[k].toNat)) (by (repeat' (first | exact envSub.nil | refine envSub.cons ?_ ?_)) <;> first | rfl | (refine congrArg some ?_; refine congrArg (Value.int _) ?_; first | omega | (dsimp only; omega)) | (simp; done) | (refine congrArg some ?_; dsimp only; congr 1; omega) | (simp; omega)) ⟨rfl, Nat.le_refl _, Horner.start hkL'⟩ ?_
                  rintro ⟨i, v⟩ _ ⟨rfl, hi, hv⟩; dsimp only at hi hv
                  refine W.sub [(0, _), (1, _), (7, _), (9, _), (10, _)] (.cons rfl (.cons rfl (.cons rfl (.cons rfl (.cons rfl .nil))))) ?_
                  refine W.seq ?_
                  refine W.seq ?_
                  refine W.region ?_
                  refine WL.move rfl rfl ?_
                  refine WL.geq rfl rfl rfl ?_
                  refine WL.nil ?_
                  refine WX.next ?_
                  refine W.sub [(0, _), (1, _), (7, _), (9, _), (10, _), (82, _)] (.cons rfl (.cons rfl (.cons rfl (.cons rfl (.cons rfl (.cons rfl .nil)))))) ?_
                  refine W.ite rfl (fun c11 => ?_) (fun c11 => ?_)
                  · obtain ⟨i, rfl⟩ : ∃ t, i = t + 1 := ⟨i - 1, by omega⟩
                    have hiL : i < L.length := by omega
                    obtain ⟨hv', hlt⟩ := hv.step hkL' hiL (by omega) (by omega) (by omega)
                    have h128 := hm i hiL (by omega)
                    have hc8 := UInt8.toNat_lt (L[i]'hiL)
                    rw [show ((i + 1 : Nat) : Int) - 1 = (i : Int) from by omega]
                    refine W.skip ?_
                    refine WX.next ?_
                    refine W.seq ?_
                    refine W.block ?_
                    refine W.region ?_
                    refine WL.move rfl rfl ?_
                    refine WL.mul rfl rfl (by first | exact wU64 (by omega) | exact mU64 _ | rfl) rfl ?_
                    refine WL.move rfl rfl ?_
                    refine WL.move rfl rfl ?_
                    refine WL.move rfl rfl ?_
                    refine WL.add rfl rfl (by first | exact wI64 (by omega) | rfl) rfl ?_
                    refine WL.idxB Try.underlying32 Try.sizeOf5 rfl rfl (by assumption) rfl (by omega) (by omega) rfl ?_
                    intro ad17_6 had17_6
                    try simp only [Int.toNat_natCast] at had17_6
                    rw [hLk i hiL (by omega) h0] at had17_6
                    refine WL.load Try.isAgg5 rfl (by assumption) rfl ?_
                    refine WL.sub' rfl rfl (by first | exact wU8 (by omega) | exact mU8 _ | rfl) rfl ?_
                    refine WL.conv Try.underlying5 Try.underlying29 rfl (by first | exact wU64 (by omega) | exact mU64 _ | rfl) rfl ?_
                    refine WL.add rfl rfl (by first | exact wU64 (by omega) | exact mU64 _ | rfl) rfl ?_
                    refine WL.assign rfl rfl ?_
                    refine WL.nil ?_
                    refine WX.blockNormal ?_
                    refine WX.next ?_
                    refine W.sub [(0, _), (1, _), (7, _), (9, _), (10, _)] (.cons rfl (.cons rfl (.cons rfl (.cons rfl (.cons rfl .nil))))) ?_
                    refine W.region ?_
                    refine WL.move rfl rfl ?_
                    refine WL.sub' rfl rfl (by first | exact wI64 (by omega) | rfl) rfl ?_
                    refine WL.assign rfl rfl ?_
                    refine WL.nil ?_
                    refine WX.round ((i, v * 128 + ((L[i]'hiL).toNat - 128))) (by (repeat' (first | exact envSub.nil | refine envSub.cons ?_ ?_)) <;> first | rfl | (refine congrArg some ?_; refine congrArg (Value.int _) ?_; first | omega | (dsimp only; omega)) | (simp; done) | (refine congrArg some ?_; dsimp only; congr 1; omega) | (simp; omega)) ⟨rfl, by dsimp only; omega, hv'⟩ (by first | omega | (dsimp only; omega))
                  · refine W.exit ?_
                    refine WX.thenExit ?_
                    refine WX.thenExit ?_
                    refine WX.blockHere ?_
                    refine WX.next ?_
                    refine W.seq ?_
                    refine W.region ?_
                    refine WL.move rfl rfl ?_
                    refine WL.move rfl rfl ?_
                    refine WL.move rfl rfl ?_
                    refine WL.add rfl rfl (by first | exact wI64 (by omega) | rfl) rfl ?_
                    refine WL.add rfl rfl (by first | exact wI64 (by omega) | rfl) rfl ?_
                    refine WL.assign rfl rfl ?_
                    refine WL.assign rfl rfl ?_
                    refine WL.assign rfl rfl ?_
                    refine WL.nil ?_
                    refine WX.next ?_
                    refine W.sub [(4, _), (5, _), (6, _)] (.cons rfl (.cons rfl (.cons rfl .nil))) ?_
                    refine W.ret ?_
                    refine WX.ret3 rfl rfl rfl rfl ?_
                    obtain rfl : i = 0 := by omega
                    have hv0 := hv.done hkL'
                    have hd := H.done (by omega) hkL' (by omega) hs'
                    exact ⟨by rw [rdU_ok h0 h1 (by rw [← hL]; exact hd)]; exact rdUv_mk hv0 (by omega) rfl, rfl⟩
              · refine WL.off rfl rfl rfl rfl ?_
                refine WL.off rfl rfl rfl rfl ?_
                refine WL.on rfl rfl ?_
                refine WL.pickF rfl rfl rfl ?_
                refine WL.pickF rfl rfl rfl ?_
                refine WL.nil ?_
                refine WX.next ?_
                refine W.sub [(0, _), (1, _), (7, _), (8, _), (76, _)] (.cons rfl (.cons rfl (.cons rfl (.cons rfl (.cons rfl .nil))))) ?_
                refine W.condF rfl ?_
                refine W.skip ?_
                refine WX.next ?_
                refine W.seq ?_
                refine W.region ?_
                refine WL.move rfl rfl ?_
                refine WL.conv Try.underlying5 Try.underlying29 rfl (by first | exact wU64 (by omega) | exact mU64 _ | rfl) rfl ?_
                refine WL.assign rfl rfl ?_
                refine WL.nil ?_
                refine WX.next ?_
                refine W.sub [(0, _), (1, _), (7, _), (9, _)] (.cons rfl (.cons rfl (.cons rfl (.cons rfl .nil)))) ?_
                refine W.seq ?_
                refine W.seq ?_
                refine W.region ?_
                refine WL.move rfl rfl ?_
                refine WL.sub' rfl rfl (by first | exact wI64 (by omega) | rfl) rfl ?_
                refine WL.assign rfl rfl ?_
                refine WL.nil ?_
                refine WX.next ?_
                refine W.sub [(0, _), (1, _), (7, _), (9, _), (10, _)] (.cons rfl (.cons rfl (.cons rfl (.cons rfl (.cons rfl .nil))))) ?_
                refine W.block ?_
                refine W.loop (ι := Nat × Nat) (fun j => [(0, .slice A l.length cap), (1, .int .i64 at_), (7, .int .i64 (k : Int)), (9, .int .u64 (j.2 : Int)), (10, .int .i64 ((j.1 : Int) - 1))]) (fun j w' => w = w' ∧ j.1 ≤ k ∧ Horner L k j.1 j.2) (fun j => j.1) ((k, L[k].toNat)) (by (repeat' (first | exact envSub.nil | refine envSub.cons ?_ ?_)) <;> first | rfl | (refine congrArg some ?_; refine congrArg (Value.int _) ?_; first | omega | (dsimp only; omega)) | (simp; done) | (refine congrArg some ?_; dsimp only; congr 1; omega) | (simp; omega)) ⟨rfl, Nat.le_refl _, Horner.start hkL'⟩ ?_
                rintro ⟨i, v⟩ _ ⟨rfl, hi, hv⟩; dsimp only at hi hv
                refine W.sub [(0, _), (1, _), (7, _), (9, _), (10, _)] (.cons rfl (.cons rfl (.cons rfl (.cons rfl (.cons rfl .nil))))) ?_
                refine W.seq ?_
                refine W.seq ?_
                refine W.region ?_
                refine WL.move rfl rfl ?_
                refine WL.geq rfl rfl rfl ?_
                refine WL.nil ?_
                refine WX.next ?_
                refine W.sub [(0, _), (1, _), (7, _), (9, _), (10, _), (82, _)] (.cons rfl (.cons rfl (.cons rfl (.cons rfl (.cons rfl (.cons rfl .nil)))))) ?_
                refine W.ite rfl (fun c11 => ?_) (fun c11 => ?_)
                · obtain ⟨i, rfl⟩ : ∃ t, i = t + 1 := ⟨i - 1, by omega⟩
                  have hiL : i < L.length := by omega
                  obtain ⟨hv', hlt⟩ := hv.step hkL' hiL (by omega) (by omega) (by omega)
                  have h128 := hm i hiL (by omega)
                  have hc8 := UInt8.toNat_lt (L[i]'hiL)
                  rw [show ((i + 1 : Nat) : Int) - 1 = (i : Int) from by omega]
                  refine W.skip ?_
                  refine WX.next ?_
                  refine W.seq ?_
                  refine W.block ?_
                  refine W.region ?_
                  refine WL.move rfl rfl ?_
                  refine WL.mul rfl rfl (by first | exact wU64 (by omega) | exact mU64 _ | rfl) rfl ?_
                  refine WL.move rfl rfl ?_
                  refine WL.move rfl rfl ?_
                  refine WL.move rfl rfl ?_
                  refine WL.add rfl rfl (by first | exact wI64 (by omega) | rfl) rfl ?_
                  refine WL.idxB Try.underlying32 Try.sizeOf5 rfl rfl (by assumption) rfl (by omega) (by omega) rfl ?_
                  intro ad17_6 had17_6
                  try simp only [Int.toNat_natCast] at had17_6
                  rw [hLk i hiL (by omega) h0] at had17_6
                  refine WL.load Try.isAgg5 rfl (by assumption) rfl ?_
                  refine WL.sub' rfl rfl (by first | exact wU8 (by omega) | exact mU8 _ | rfl) rfl ?_
                  refine WL.conv Try.underlying5 Try.underlying29 rfl (by first | exact wU64 (by omega) | exact mU64 _ | rfl) rfl ?_
                  refine WL.add rfl rfl (by first | exact wU64 (by omega) | exact mU64 _ | rfl) rfl ?_
                  refine WL.assign rfl rfl ?_
                  refine WL.nil ?_
                  refine WX.blockNormal ?_
                  refine WX.next ?_
                  refine W.sub [(0, _), (1, _), (7, _), (9, _), (10, _)] (.cons rfl (.cons rfl (.cons rfl (.cons rfl (.cons rfl .nil))))) ?_
                  refine W.region ?_
                  refine WL.move rfl rfl ?_
                  refine WL.sub' rfl rfl (by first | exact wI64 (by omega) | rfl) rfl ?_
                  refine WL.assign rfl rfl ?_
                  refine WL.nil ?_
                  refine WX.round ((i, v * 128 + ((L[i]'hiL).toNat - 128))) (by (repeat' (first | exact envSub.nil | refine envSub.cons ?_ ?_)) <;> first | rfl | (refine congrArg some ?_; refine congrArg (Value.int _) ?_; first | omega | (dsimp only; omega)) | (simp; done) | (refine congrArg some ?_; dsimp only; congr 1; omega) | (simp; omega)) ⟨rfl, by dsimp only; omega, hv'⟩ (by first | omega | (dsimp only; omega))
                · refine W.exit ?_
                  refine WX.thenExit ?_
                  refine WX.thenExit ?_
                  refine WX.blockHere ?_
                  refine WX.next ?_
                  refine W.seq ?_
                  refine W.region ?_
                  refine WL.move rfl rfl ?_
                  refine WL.move rfl rfl ?_
                  refine WL.move rfl rfl ?_
                  refine WL.add rfl rfl (by first | exact wI64 (by omega) | rfl) rfl ?_
                  refine WL.add rfl rfl (by first | exact wI64 (by omega) | rfl) rfl ?_
                  refine WL.assign rfl rfl ?_
                  refine WL.assign rfl rfl ?_
                  refine WL.assign rfl rfl ?_
                  refine WL.nil ?_
                  refine WX.next ?_
                  refine W.sub [(4, _), (5, _), (6, _)] (.cons rfl (.cons rfl (.cons rfl .nil))) ?_
                  refine W.ret ?_
                  refine WX.ret3 rfl rfl rfl rfl ?_
                  obtain rfl : i = 0 := by omega
                  have hv0 := hv.done hkL'
                  have hd := H.done (by omega) hkL' (by omega) hs'
                  exact ⟨by rw [rdU_ok h0 h1 (by rw [← hL]; exact hd)]; exact rdUv_mk hv0 (by omega) rfl, rfl⟩
          · refine WL.off rfl rfl rfl rfl ?_
            refine WL.off rfl rfl rfl rfl ?_
            refine WL.pickF rfl rfl rfl ?_
            refine WL.move rfl rfl ?_
            refine WL.on rfl rfl ?_
            refine WL.move rfl rfl ?_
            refine WL.on rfl rfl ?_
            refine WL.eqI rfl rfl rfl ?_
            refine WL.on rfl rfl ?_
            refine WL.moveIf rfl rfl (fun c9 => ?_) (fun c9 => ?_)
            · refine WL.on rfl rfl ?_
              refine WL.move rfl rfl ?_
              refine WL.on rfl rfl ?_
              refine WL.gtr rfl rfl rfl ?_
              refine WL.on rfl rfl ?_
              refine WL.pickT rfl rfl rfl ?_
              refine WL.pickF rfl rfl rfl ?_
              refine WL.nil ?_
              refine WX.next ?_
              refine W.sub [(0, _), (1, _), (7, _), (8, _), (76, _)] (.cons rfl (.cons rfl (.cons rfl (.cons rfl (.cons rfl .nil))))) ?_
              refine W.ite rfl (fun c10 => ?_) (fun c10 => ?_)
              · refine W.seq ?_
                refine W.region ?_
                refine WL.assign rfl rfl ?_
                refine WL.assign rfl rfl ?_
                refine WL.assign rfl rfl ?_
                refine WL.nil ?_
                refine WX.next ?_
                refine W.sub [(4, _), (5, _), (6, _)] (.cons rfl (.cons rfl (.cons rfl .nil))) ?_
                refine W.ret ?_
                refine WX.thenRet ?_
                refine WX.ret3 rfl rfl rfl rfl ?_
                exact ⟨by rw [rdU_bad h0 h1 (e := 10) (by rw [← hL]; exact H.bad (by omega) (by omega) (by omega))]; rfl, rfl⟩
              · refine W.skip ?_
                refine WX.next ?_
                refine W.seq ?_
                refine W.region ?_
                refine WL.move rfl rfl ?_
                refine WL.conv Try.underlying5 Try.underlying29 rfl (by first | exact wU64 (by omega) | exact mU64 _ | rfl) rfl ?_
                refine WL.assign rfl rfl ?_
                refine WL.nil ?_
                refine WX.next ?_
                refine W.sub [(0, _), (1, _), (7, _), (9, _)] (.cons rfl (.cons rfl (.cons rfl (.cons rfl .nil)))) ?_
                refine W.seq ?_
                refine W.seq ?_
                refine W.region ?_
                refine WL.move rfl rfl ?_
                refine WL.sub' rfl rfl (by first | exact wI64 (by omega) | rfl) rfl ?_
                refine WL.assign rfl rfl ?_
                refine WL.nil ?_
                refine WX.next ?_
                refine W.sub [(0, _), (1, _), (7, _), (9, _), (10, _)] (.cons rfl (.cons rfl (.cons rfl (.cons rfl (.cons rfl .nil))))) ?_
                refine W.block ?_
                refine W.loop (ι := Nat × Nat) (fun j => [(0, .slice A l.length cap), (1, .int .i64 at_), (7, .int .i64 (k : Int)), (9, .int .u64 (j.2 : Int)), (10, .int .i64 ((j.1 : Int) - 1))]) (fun j w' => w = w' ∧ j.1 ≤ k ∧ Horner L k j.1 j.2) (fun j => j.1) ((k, L[k].toNat)) (by (repeat' (first | exact envSub.nil | refine envSub.cons ?_ ?_)) <;> first | rfl | (refine congrArg some ?_; refine congrArg (Value.int _) ?_; first | omega | (dsimp only; omega)) | (simp; done) | (refine congrArg some ?_; dsimp only; congr 1; omega) | (simp; omega)) ⟨rfl, Nat.le_refl _, Horner.start hkL'⟩ ?_
                rintro ⟨i, v⟩ _ ⟨rfl, hi, hv⟩; dsimp only at hi hv
                refine W.sub [(0, _), (1, _), (7, _), (9, _), (10, _)] (.cons rfl (.cons rfl (.cons rfl (.cons rfl (.cons rfl .nil))))) ?_
                refine W.seq ?_
                refine W.seq ?_
                refine W.region ?_
                refine WL.move rfl rfl ?_
                refine WL.geq rfl rfl rfl ?_
                refine WL.nil ?_
                refine WX.next ?_
                refine W.sub [(0, _), (1, _), (7, _), (9, _), (10, _), (82, _)] (.cons rfl (.cons rfl (.cons rfl (.cons rfl (.cons rfl (.cons rfl .nil)))))) ?_
                refine W.ite rfl (fun c11 => ?_) (fun c11 => ?_)
                · obtain ⟨i, rfl⟩ : ∃ t, i = t + 1 := ⟨i - 1, by omega⟩
                  have hiL : i < L.length := by omega
                  obtain ⟨hv', hlt⟩ := hv.step hkL' hiL (by omega) (by omega) (by omega)
                  have h128 := hm i hiL (by omega)
                  have hc8 := UInt8.toNat_lt (L[i]'hiL)
                  rw [show ((i + 1 : Nat) : Int) - 1 = (i : Int) from by omega]
                  refine W.skip ?_
                  refine WX.next ?_
                  refine W.seq ?_
                  refine W.block ?_
                  refine W.region ?_
                  refine WL.move rfl rfl ?_
                  refine WL.mul rfl rfl (by first | exact wU64 (by omega) | exact mU64 _ | rfl) rfl ?_
                  refine WL.move rfl rfl ?_
                  refine WL.move rfl rfl ?_
                  refine WL.move rfl rfl ?_
                  refine WL.add rfl rfl (by first | exact wI64 (by omega) | rfl) rfl ?_
                  refine WL.idxB Try.underlying32 Try.sizeOf5 rfl rfl (by assumption) rfl (by omega) (by omega) rfl ?_
                  intro ad17_6 had17_6
                  try simp only [Int.toNat_natCast] at had17_6
                  rw [hLk i hiL (by omega) h0] at had17_6
                  refine WL.load Try.isAgg5 rfl (by assumption) rfl ?_
                  refine WL.sub' rfl rfl (by first | exact wU8 (by omega) | exact mU8 _ | rfl) rfl ?_
                  refine WL.conv Try.underlying5 Try.underlying29 rfl (by first | exact wU64 (by omega) | exact mU64 _ | rfl) rfl ?_
                  refine WL.add rfl rfl (by first | exact wU64 (by omega) | exact mU64 _ | rfl) rfl ?_
                  refine WL.assign rfl rfl ?_
                  refine WL.nil ?_
                  refine WX.blockNormal ?_
                  refine WX.next ?_
                  refine W.sub [(0, _), (1, _), (7, _), (9, _), (10, _)] (.cons rfl (.cons rfl (.cons rfl (.cons rfl (.cons rfl .nil))))) ?_
                  refine W.region ?_
                  refine WL.move rfl rfl ?_
                  refine WL.sub' rfl rfl (by first | exact wI64 (by omega) | rfl) rfl ?_
                  refine WL.assign rfl rfl ?_
                  refine WL.nil ?_
                  refine WX.round ((i, v * 128 + ((L[i]'hiL).toNat - 128))) (by (repeat' (first | exact envSub.nil | refine envSub.cons ?_ ?_)) <;> first | rfl | (refine congrArg some ?_; refine congrArg (Value.int _) ?_; first | omega | (dsimp only; omega)) | (simp; done) | (refine congrArg some ?_; dsimp only; congr 1; omega) | (simp; omega)) ⟨rfl, by dsimp only; omega, hv'⟩ (by first | omega | (dsimp only; omega))
                · refine W.exit ?_
                  refine WX.thenExit ?_
                  refine WX.thenExit ?_
                  refine WX.blockHere ?_
                  refine WX.next ?_
                  refine W.seq ?_
                  refine W.region ?_
                  refine WL.move rfl rfl ?_
                  refine WL.move rfl rfl ?_
                  refine WL.move rfl rfl ?_
                  refine WL.add rfl rfl (by first | exact wI64 (by omega) | rfl) rfl ?_
                  refine WL.add rfl rfl (by first | exact wI64 (by omega) | rfl) rfl ?_
                  refine WL.assign rfl rfl ?_
                  refine WL.assign rfl rfl ?_
                  refine WL.assign rfl rfl ?_
                  refine WL.nil ?_
                  refine WX.next ?_
                  refine W.sub [(4, _), (5, _), (6, _)] (.cons rfl (.cons rfl (.cons rfl .nil))) ?_
                  refine W.ret ?_
                  refine WX.ret3 rfl rfl rfl rfl ?_
                  obtain rfl : i = 0 := by omega
                  have hv0 := hv.done hkL'
                  have hd := H.done (by omega) hkL' (by omega) hs'
                  exact ⟨by rw [rdU_ok h0 h1 (by rw [← hL]; exact hd)]; exact rdUv_mk hv0 (by omega) rfl, rfl⟩
            · refine WL.off rfl rfl rfl rfl ?_
              refine WL.off rfl rfl rfl rfl ?_
              refine WL.on rfl rfl ?_
              refine WL.pickF rfl rfl rfl ?_
              refine WL.pickF rfl rfl rfl ?_
              refine WL.nil ?_
              refine WX.next ?_
              refine W.sub [(0, _), (1, _), (7, _), (8, _), (76, _)] (.cons rfl (.cons rfl (.cons rfl (.cons rfl (.cons rfl .nil))))) ?_
              refine W.condF rfl ?_
              refine W.skip ?_
              refine WX.next ?_
              refine W.seq ?_
              refine W.region ?_
              refine WL.move rfl rfl ?_
              refine WL.conv Try.underlying5 Try.underlying29 rfl (by first | exact wU64 (by omega) | exact mU64 _ | rfl) rfl ?_
              refine WL.assign rfl rfl ?_
              refine WL.nil ?_
              refine WX.next ?_
              refine W.sub [(0, _), (1, _), (7, _), (9, _)] (.cons rfl (.cons rfl (.cons rfl (.cons rfl .nil)))) ?_
              refine W.seq ?_
              refine W.seq ?_
              refine W.region ?_
              refine WL.move rfl rfl ?_
              refine WL.sub' rfl rfl (by first | exact wI64 (by omega) | rfl) rfl ?_
              refine WL.assign rfl rfl ?_
              refine WL.nil ?_
              refine WX.next ?_
              refine W.sub [(0, _), (1, _), (7, _), (9, _), (10, _)] (.cons rfl (.cons rfl (.cons rfl (.cons rfl (.cons rfl .nil))))) ?_
              refine W.block ?_
              refine W.loop (ι := Nat × Nat) (fun j => [(0, .slice A l.length cap), (1, .int .i64 at_), (7, .int .i64 (k : Int)), (9, .int .u64 (j.2 : Int)), (10, .int .i64 ((j.1 : Int) - 1))]) (fun j w' => w = w' ∧ j.1 ≤ k ∧ Horner L k j.1 j.2) (fun j => j.1) ((k, L[k].toNat)) (by (repeat' (first | exact envSub.nil | refine envSub.cons ?_ ?_)) <;> first | rfl | (refine congrArg some ?_; refine congrArg (Value.int _) ?_; first | omega | (dsimp only; omega)) | (simp; done) | (refine congrArg some ?_; dsimp only; congr 1; omega) | (simp; omega)) ⟨rfl, Nat.le_refl _, Horner.start hkL'⟩ ?_
              rintro ⟨i, v⟩ _ ⟨rfl, hi, hv⟩; dsimp only at hi hv
              refine W.sub [(0, _), (1, _), (7, _), (9, _), (10, _)] (.cons rfl (.cons rfl (.cons rfl (.cons rfl (.cons rfl .nil))))) ?_
              refine W.seq ?_
              refine W.seq ?_
              refine W.region ?_
              refine WL.move rfl rfl ?_
              refine WL.geq rfl rfl rfl ?_
              refine WL.nil ?_
              refine WX.next ?_
              refine W.sub [(0, _), (1, _), (7, _), (9, _), (10, _), (82, _)] (.cons rfl (.cons rfl (.cons rfl (.cons rfl (.cons rfl (.cons rfl .nil)))))) ?_
              refine W.ite rfl (fun c11 => ?_) (fun c11 => ?_)
              · obtain ⟨i, rfl⟩ : ∃ t, i = t + 1 := ⟨i - 1, by omega⟩
                have hiL : i < L.length := by omega
                obtain ⟨hv', hlt⟩ := hv.step hkL' hiL (by omega) (by omega) (by omega)
                have h128 := hm i hiL (by omega)
                have hc8 := UInt8.toNat_lt (L[i]'hiL)
                rw [show ((i + 1 : Nat) : Int) - 1 = (i : Int) from by omega]
                refine W.skip ?_
                refine WX.next ?_
                refine W.seq ?_
                refine W.block ?_
                refine W.region ?_
                refine WL.move rfl rfl ?_
                refine WL.mul rfl rfl (by first | exact wU64 (by omega) | exact mU64 _ | rfl) rfl ?_
                refine WL.move rfl rfl ?_
                refine WL.move rfl rfl ?_
                refine WL.move rfl rfl ?_
                refine WL.add rfl rfl (by first | exact wI64 (by omega) | rfl) rfl ?_
                refine WL.idxB Try.underlying32 Try.sizeOf5 rfl rfl (by assumption) rfl (by omega) (by omega) rfl ?_
                intro ad17_6 had17_6
                try simp only [Int.toNat_natCast] at had17_6
                rw [hLk i hiL (by omega) h0] at had17_6
                refine WL.load Try.isAgg5 rfl (by assumption) rfl ?_
                refine WL.sub' rfl rfl (by first | exact wU8 (by omega) | exact mU8 _ | rfl) rfl ?_
                refine WL.conv Try.underlying5 Try.underlying29 rfl (by first | exact wU64 (by omega) | exact mU64 _ | rfl) rfl ?_
                refine WL.add rfl rfl (by first | exact wU64 (by omega) | exact mU64 _ | rfl) rfl ?_
                refine WL.assign rfl rfl ?_
                refine WL.nil ?_
                refine WX.blockNormal ?_
                refine WX.next ?_
                refine W.sub [(0, _), (1, _), (7, _), (9, _), (10, _)] (.cons rfl (.cons rfl (.cons rfl (.cons rfl (.cons rfl .nil))))) ?_
                refine W.region ?_
                refine WL.move rfl rfl ?_
                refine WL.sub' rfl rfl (by first | exact wI64 (by omega) | rfl) rfl ?_
                refine WL.assign rfl rfl ?_
                refine WL.nil ?_
                refine WX.round ((i, v * 128 + ((L[i]'hiL).toNat - 128))) (by (repeat' (first | exact envSub.nil | refine envSub.cons ?_ ?_)) <;> first | rfl | (refine congrArg some ?_; refine congrArg (Value.int _) ?_; first | omega | (dsimp only; omega)) | (simp; done) | (refine congrArg some ?_; dsimp only; congr 1; omega) | (simp; omega)) ⟨rfl, by dsimp only; omega, hv'⟩ (by first | omega | (dsimp only; omega))
              · refine W.exit ?_
                refine WX.thenExit ?_
                refine WX.thenExit ?_
                refine WX.blockHere ?_
                refine WX.next ?_
                refine W.seq ?_
                refine W.region ?_
                refine WL.move rfl rfl ?_
                refine WL.move rfl rfl ?_
                refine WL.move rfl rfl ?_
                refine WL.add rfl rfl (by first | exact wI64 (by omega) | rfl) rfl ?_
                refine WL.add rfl rfl (by first | exact wI64 (by omega) | rfl) rfl ?_
                refine WL.assign rfl rfl ?_
                refine WL.assign rfl rfl ?_
                refine WL.assign rfl rfl ?_
                refine WL.nil ?_
                refine WX.next ?_
                refine W.sub [(4, _), (5, _), (6, _)] (.cons rfl (.cons rfl (.cons rfl .nil))) ?_
                refine W.ret ?_
                refine WX.ret3 rfl rfl rfl rfl ?_
                obtain rfl : i = 0 := by omega
                have hv0 := hv.done hkL'
                have hd := H.done (by omega) hkL' (by omega) hs'
                exact ⟨by rw [rdU_ok h0 h1 (by rw [← hL]; exact hd)]; exact rdUv_mk hv0 (by omega) rfl, rfl⟩
end Go.Proofs.Ytmogpoghngmnmaa
