/-
  Walk: seawallref00.Own.
-/
import Derived.Test.YtmogpoghngmnmaaOwnAll
namespace Go.Proofs.Ytmogpoghngmnmaa
open Go Go.RowKit

theorem u8w (z : Int) (m : Nat) (h : z % 256 = (m : Int) % 256) : IntKind.u8.wrap z = ((UInt8.ofNat (m % 256)).toNat : Int) := by
  rw [u8_toNat (Nat.mod_lt _ (by decide)), mU8 z, h]
  omega

theorem perm_move {α : Type} (a : α) (p q L : List α) : (a :: (p ++ (q ++ L))).Perm (p ++ ((q ++ [a]) ++ L)) := by
  have h := (List.perm_middle (a := a) (l₁ := p ++ q) (l₂ := L)).symm
  simpa using h

set_option maxHeartbeats 1000000 in
theorem Own_ok {xs : List OX} {B : Option Addr} {c : Nat} {w0 w : World} {L : List Asr} (M : Mem w0 w (Asr.own 32 1 B xs.length c (xs.map OX.v) :: (xs.map OX.O ++ L)))
    (hxs : xs.length ≤ 1000000) (hxl : ∀ x ∈ xs, x.l.length ≤ 140737488351232) :
    Fn Try.prog 20 [.slice B xs.length c] w fun v w' => v = .bool true ∧ Mem w0 w' L := by
  have oneV : ∀ v ∈ [Value.slice none 0 0], v.oneCell' = true := by simp [Value.oneCell']
  generalize hOU : Asr.own 32 1 B xs.length c (xs.map OX.v) = OU at M
  have rdO : ∀ {w' : World} {L' : List Asr}, Mem w0 w' (OU :: L') → Rd w' B xs.length c 1 (xs.map OX.v) := fun h => by subst hOU; exact h.rdOwn
  refine Fn.enter Try.func20 rfl Try.ntmps20 rfl ?_
  refine W.sub [(0, _)] (.cons rfl .nil) ?_
  refine W.seq ?_
  refine W.region ?_
  refine WL.assign rfl rfl ?_
  refine WL.nil ?_
  refine WX.next ?_
  refine W.sub [(0, _)] (.cons rfl .nil) ?_
  refine W.seq ?_
  refine W.region ?_
  refine WL.assign rfl rfl ?_
  refine WL.nil ?_
  refine WX.next ?_
  refine W.sub [(0, _), (3, _)] (.cons rfl (.cons rfl .nil)) ?_
  refine W.seq ?_
  refine W.seq ?_
  refine W.region ?_
  refine WL.assign rfl rfl ?_
  refine WL.nil ?_
  refine WX.next ?_
  refine W.sub [(0, _), (3, _), (4, _)] (.cons rfl (.cons rfl (.cons rfl .nil))) ?_
  refine W.block ?_
  refine W.loop (ι := List OX × List OX) (fun s => [(0, .slice B xs.length c), (3, .slice none 0 0), (4, .int .i64 (s.1.length : Int))]) (fun s w' => (s.1 ++ s.2).map OX.v = xs.map OX.v ∧ (∀ j x, s.1[j]? = some x → x.l = pat j x.l.length) ∧ (∀ x ∈ s.1 ++ s.2, x.l.length ≤ 140737488351232) ∧ Mem w0 w' (OU :: (s.2.map OX.O ++ (s.1.map OX.O ++ L)))) (fun s => s.2.length) (([], xs)) (by (repeat' (first | exact envSub.nil | refine envSub.cons ?_ ?_)) <;> first | rfl | (refine congrArg some ?_; refine congrArg (Value.int _) ?_; first | omega | (dsimp only; omega)) | (simp; done) | (refine congrArg some ?_; dsimp only; congr 1; omega) | (simp; omega)) ⟨rfl, (fun j x h => by simp at h), hxl, by simpa using M⟩ ?_
  rintro ⟨pre, post⟩ w1 ⟨hs, hp, hb, M1⟩; dsimp only at hs hp hb M1 ⊢
  have hlen : pre.length + post.length = xs.length := by
    have := congrArg List.length hs
    simpa using this
  refine W.sub [(0, _), (3, _), (4, _)] (.cons rfl (.cons rfl (.cons rfl .nil))) ?_
  refine W.seq ?_
  refine W.seq ?_
  refine W.region ?_
  refine WL.move rfl rfl ?_
  refine WL.move rfl rfl ?_
  refine WL.len Try.underlying52 rfl rfl ?_
  refine WL.lss rfl rfl rfl ?_
  refine WL.nil ?_
  refine WX.next ?_
  refine W.sub [(0, _), (3, _), (4, _), (16, _)] (.cons rfl (.cons rfl (.cons rfl (.cons rfl .nil)))) ?_
  refine W.ite rfl (fun c0 => ?_) (fun c0 => ?_)
  · obtain ⟨⟨A, cap, l⟩, post, rfl⟩ : ∃ x p, post = x :: p := by
      cases post with
      | nil => simp at hlen; omega
      | cons x p => exact ⟨x, p, rfl⟩
    have hxi : (xs.map OX.v)[pre.length]? = some (.slice A l.length cap) := by
      rw [← hs, List.map_append, List.getElem?_append_right (by simp)]
      simp [OX.v]
    have hbl : l.length ≤ 140737488351232 := hb ⟨A, cap, l⟩ (by simp)
    have M1' : Mem w0 w1 (OU :: Asr.own 5 1 A l.length cap (bs l) :: (post.map OX.O ++ (pre.map OX.O ++ L))) := M1
    refine W.skip ?_
    refine WX.next ?_
    refine W.seq ?_
    refine W.block ?_
    refine W.seq ?_
    refine W.region ?_
    refine WL.assign rfl rfl ?_
    refine WL.nil ?_
    refine WX.next ?_
    refine W.sub [(0, _), (3, _), (4, _), (5, _)] (.cons rfl (.cons rfl (.cons rfl (.cons rfl .nil)))) ?_
    refine W.block ?_
    refine W.loop (ι := Nat × List UInt8) (fun s => [(0, .slice B xs.length c), (3, .slice none 0 0), (4, .int .i64 (pre.length : Int)), (5, .int .i64 (s.1 : Int))]) (fun s w' => s.1 ≤ l.length ∧ s.2.length = l.length ∧ (∀ j, j < s.1 → s.2[j]? = some (pb pre.length j)) ∧ Mem w0 w' (OU :: Asr.own 5 1 A l.length cap (bs s.2) :: (post.map OX.O ++ (pre.map OX.O ++ L)))) (fun s => l.length - s.1) ((0, l)) (by (repeat' (first | exact envSub.nil | refine envSub.cons ?_ ?_)) <;> first | rfl | (refine congrArg some ?_; refine congrArg (Value.int _) ?_; first | omega | (dsimp only; omega)) | (simp; done) | (refine congrArg some ?_; dsimp only; congr 1; omega) | (simp; omega)) ⟨by simp, rfl, (fun j h => by dsimp only at h; omega), M1'⟩ ?_
    rintro ⟨k, l2⟩ w2 ⟨hk, hl2, hpk, M2⟩; dsimp only at hk hl2 hpk M2 ⊢
    refine W.sub [(0, _), (3, _), (4, _), (5, _)] (.cons rfl (.cons rfl (.cons rfl (.cons rfl .nil)))) ?_
    refine W.seq ?_
    refine W.seq ?_
    refine W.region ?_
    refine WL.move rfl rfl ?_
    refine WL.move rfl rfl ?_
    refine WL.move rfl rfl ?_
    refine WL.idx1 Try.underlying52 Try.sizeOf32 rfl rfl (rdO M2) (by rw [Int.toNat_natCast]; exact hxi) (by omega) rfl ?_
    intro ad6 had6
    refine WL.load Try.isAgg32 rfl had6 rfl ?_
    refine WL.len Try.underlying32 rfl rfl ?_
    refine WL.lss rfl rfl rfl ?_
    refine WL.nil ?_
    refine WX.next ?_
    refine W.sub [(0, _), (3, _), (4, _), (5, _), (25, _)] (.cons rfl (.cons rfl (.cons rfl (.cons rfl (.cons rfl .nil))))) ?_
    refine W.ite rfl (fun c1 => ?_) (fun c1 => ?_)
    · obtain ⟨g, sp, rfl, M3, hcl, hcm, hnc, hvl⟩ := M2.f1.ownRow (by
        rintro rfl
        have h0 := M2.f1.head.2
        rcases h0 with ⟨_, h0, _⟩ | ⟨_, _, h0, _⟩
        · omega
        · cases h0)
      refine W.skip ?_
      refine WX.next ?_
      refine W.seq ?_
      refine W.block ?_
      refine W.region ?_
      refine WL.move rfl rfl ?_
      refine WL.move rfl rfl ?_
      refine WL.idx1 Try.underlying52 Try.sizeOf32 rfl rfl (rdO M3.tail) (by rw [Int.toNat_natCast]; exact hxi) (by omega) rfl ?_
      intro ad8 had8
      refine WL.load Try.isAgg32 rfl had8 rfl ?_
      refine WL.move rfl rfl ?_
      refine WL.move rfl rfl ?_
      refine WL.mul rfl rfl (by first | exact wI64 (by omega) | rfl) rfl ?_
      refine WL.move rfl rfl ?_
      refine WL.rem rfl rfl (by omega) (remN (by omega)) rfl ?_
      refine WL.add rfl rfl (by first | exact wI64 (by omega) | rfl) rfl ?_
      refine WL.conv Try.underlying3 Try.underlying5 rfl (u8w _ (pre.length * 31 + k % 7) (by omega)) rfl ?_
      refine WL.idxAt (o' := k) Try.underlying32 Try.sizeOf5 rfl rfl (by omega) (by omega) (by omega) rfl ?_
      refine WL.store M3 Try.sizeOf5 rfl rfl rfl (by simp [bs]; omega) ?_
      intro w3 M4
      rw [show Value.int .u8 ((UInt8.ofNat ((pre.length * 31 + k % 7) % 256)).toNat : Int) = bv (pb pre.length k) from rfl, List.set_append, if_pos (by simp [bs]; omega), bs_set] at M4
      have M5 := M4.rowOwn (n := l.length) (size := 1) (cap := cap) sp rfl (by simp [bs]; omega) (by simp [bs] at hcl ⊢; omega) hcm hnc
      refine WL.nil ?_
      refine WX.blockNormal ?_
      refine WX.next ?_
      refine W.sub [(0, _), (3, _), (4, _), (5, _)] (.cons rfl (.cons rfl (.cons rfl (.cons rfl .nil)))) ?_
      refine W.region ?_
      refine WL.move rfl rfl ?_
      refine WL.add rfl rfl (by first | exact wI64 (by omega) | rfl) rfl ?_
      refine WL.assign rfl rfl ?_
      refine WL.nil ?_
      have q1 : (l2.set k (pb pre.length k)).length = l.length := by simpa using hl2
      have q2 : ∀ j, j < k + 1 → (l2.set k (pb pre.length k))[j]? = some (pb pre.length j) := by
        intro j hj
        rw [List.getElem?_set]
        split
        · subst_vars
          rw [if_pos (by omega)]
        · exact hpk j (by omega)
      refine WX.round ((k + 1, l2.set k (pb pre.length k))) (by (repeat' (first | exact envSub.nil | refine envSub.cons ?_ ?_)) <;> first | rfl | (refine congrArg some ?_; refine congrArg (Value.int _) ?_; first | omega | (dsimp only; omega)) | (simp; done) | (refine congrArg some ?_; dsimp only; congr 1; omega) | (simp; omega)) ⟨by dsimp only; omega, q1, q2, M5.f1⟩ (by first | omega | (dsimp only; omega))
    · obtain rfl : k = l.length := by omega
      have hpat : l2 = pat pre.length l.length := by
        apply List.ext_getElem?
        intro j
        by_cases hj : j < l.length
        · rw [hpk j hj, pat_get hj]
        · rw [List.getElem?_eq_none (by omega), List.getElem?_eq_none (by rw [pat_length]; omega)]
      refine W.exit ?_
      refine WX.thenExit ?_
      refine WX.thenExit ?_
      refine WX.blockHere ?_
      refine WX.blockNormal ?_
      refine WX.next ?_
      refine W.region ?_
      refine WL.move rfl rfl ?_
      refine WL.add rfl rfl (by first | exact wI64 (by omega) | rfl) rfl ?_
      refine WL.assign rfl rfl ?_
      refine WL.nil ?_
      have e1 : (pre ++ [OX.mk A cap l2]).length = pre.length + 1 := by simp
      have e2 : (OX.mk A cap l :: post).length = post.length + 1 := rfl
      have q1 : (pre ++ [OX.mk A cap l2] ++ post).map OX.v = xs.map OX.v := by
        rw [← hs]
        simp [OX.v, hl2]
      have q2 : ∀ j x, (pre ++ [OX.mk A cap l2])[j]? = some x → x.l = pat j x.l.length := by
        intro j x hj
        rw [List.getElem?_append] at hj
        split at hj
        · exact hp j x hj
        · have hj0 : j - pre.length = 0 := by
            have := (List.getElem?_eq_some_iff.1 hj).1
            simp at this
            omega
          rw [hj0] at hj
          obtain rfl : (⟨A, cap, l2⟩ : OX) = x := by simpa using hj
          obtain rfl : j = pre.length := by omega
          dsimp only
          rw [hl2]
          exact hpat
      have q3 : ∀ x ∈ pre ++ [OX.mk A cap l2] ++ post, x.l.length ≤ 140737488351232 := by
        intro x hx
        simp only [List.append_assoc, List.singleton_append, List.mem_append, List.mem_cons] at hx hb
        rcases hx with hx | rfl | hx
        · exact hb x (.inl hx)
        · dsimp only; omega
        · exact hb x (.inr (.inr hx))
      have q4 : Mem w0 w2 (OU :: (post.map OX.O ++ ((pre ++ [OX.mk A cap l2]).map OX.O ++ L))) := M2.perm (List.Perm.cons _ (by
        have e1 : Asr.own 5 1 A l.length cap (bs l2) = OX.O ⟨A, cap, l2⟩ := by unfold OX.O; dsimp only; rw [hl2]
        rw [e1, List.map_append, List.map_cons, List.map_nil]
        exact perm_move _ _ _ _))
      refine WX.round ((pre ++ [OX.mk A cap l2], post)) (by (repeat' (first | exact envSub.nil | refine envSub.cons ?_ ?_)) <;> first | rfl | (refine congrArg some ?_; refine congrArg (Value.int _) ?_; first | omega | (dsimp only; omega)) | (simp; done) | (refine congrArg some ?_; dsimp only; congr 1; omega) | (simp; omega)) ⟨q1, q2, q3, q4⟩ (by first | omega | (dsimp only; omega))
  · obtain rfl : post = [] := List.eq_nil_of_length_eq_zero (by omega)
    refine W.exit ?_
    refine WX.thenExit ?_
    refine WX.thenExit ?_
    refine WX.blockHere ?_
    refine WX.next ?_
    refine W.seq ?_
    refine W.seq ?_
    refine W.region ?_
    refine WL.assign rfl rfl ?_
    refine WL.nil ?_
    refine WX.next ?_
    refine W.sub [(0, _), (3, _), (6, _)] (.cons rfl (.cons rfl (.cons rfl .nil))) ?_
    refine W.block ?_
    refine W.loop (ι := (List TX × List OX) × (Option Addr × Nat)) (fun s => [(0, .slice B xs.length c), (3, .slice s.2.1 s.1.1.length s.2.2), (6, .int .i64 (s.1.1.length : Int))]) (fun s w' => s.1.1.map TX.v ++ s.1.2.map OX.v = xs.map OX.v ∧ (∀ j x, s.1.1[j]? = some x → x.l = pat j x.n ++ app j 4) ∧ (∀ j x, s.1.2[j]? = some x → x.l = pat (s.1.1.length + j) x.l.length) ∧ (∀ x ∈ s.1.2, x.l.length ≤ 140737488351232) ∧  Mem w0 w' (Asr.own 32 1 s.2.1 s.1.1.length s.2.2 (s.1.1.map TX.v2) :: OU :: (s.1.2.map OX.O ++ (s.1.1.map TX.T ++ L)))) (fun s => s.1.2.length) ((([], pre), (none, 0))) (by (repeat' (first | exact envSub.nil | refine envSub.cons ?_ ?_)) <;> first | rfl | (refine congrArg some ?_; refine congrArg (Value.int _) ?_; first | omega | (dsimp only; omega)) | (simp; done) | (refine congrArg some ?_; dsimp only; congr 1; omega) | (simp; omega)) ⟨by simpa using hs, (fun j x h => by simp at h), (fun j x h => by simpa using hp j x h), (fun x hx => hb x (by simpa using hx)), by simpa using M1.nilOwn 32 1⟩ ?_
    rintro ⟨⟨D, post⟩, B3, c3⟩ w2 ⟨hs2, hD, hP, hb2, M2⟩; dsimp only at hs2 hD hP hb2 M2 ⊢
    have hlen2 : D.length + post.length = xs.length := by
      have := congrArg List.length hs2
      simpa using this
    refine W.sub [(0, _), (3, _), (6, _)] (.cons rfl (.cons rfl (.cons rfl .nil))) ?_
    refine W.seq ?_
    refine W.seq ?_
    refine W.region ?_
    refine WL.move rfl rfl ?_
    refine WL.move rfl rfl ?_
    refine WL.len Try.underlying52 rfl rfl ?_
    refine WL.lss rfl rfl rfl ?_
    refine WL.nil ?_
    refine WX.next ?_
    refine W.sub [(0, _), (3, _), (6, _), (43, _)] (.cons rfl (.cons rfl (.cons rfl (.cons rfl .nil)))) ?_
    refine W.ite rfl (fun c2 => ?_) (fun c2 => ?_)
    · obtain ⟨⟨A, cap, l⟩, post, rfl⟩ : ∃ x p, post = x :: p := by
        cases post with
        | nil => simp at hlen2; omega
        | cons x p => exact ⟨x, p, rfl⟩
      have hxi : (xs.map OX.v)[D.length]? = some (.slice A l.length cap) := by
        rw [← hs2, List.getElem?_append_right (by simp)]
        simp [OX.v]
      have hl := hP 0 ⟨A, cap, l⟩ rfl
      have hbl : l.length ≤ 140737488351232 := hb2 ⟨A, cap, l⟩ (by simp)
      dsimp only at hl
      rw [Nat.add_zero] at hl
      simp only [List.length_cons] at hlen2
      have M2' := (Mem.f2 (C := OX.O ⟨A, cap, l⟩) (L := post.map OX.O ++ (D.map TX.T ++ L)) M2).toT
      dsimp only at M2'
      refine W.skip ?_
      refine WX.next ?_
      refine W.seq ?_
      refine W.block ?_
      refine W.seq ?_
      refine W.region ?_
      refine WL.move rfl rfl ?_
      refine WL.move rfl rfl ?_
      refine WL.idx1 Try.underlying52 Try.sizeOf32 rfl rfl (rdO M2.tail) (by rw [Int.toNat_natCast]; exact hxi) (by omega) rfl ?_
      intro ad12 had12
      refine WL.load Try.isAgg32 rfl had12 rfl ?_
      refine WL.assign rfl rfl ?_
      refine WL.nil ?_
      refine WX.next ?_
      refine W.sub [(0, _), (3, _), (6, _), (7, _)] (.cons rfl (.cons rfl (.cons rfl (.cons rfl .nil)))) ?_
      refine W.seq ?_
      refine W.seq ?_
      refine W.region ?_
      refine WL.assign rfl rfl ?_
      refine WL.nil ?_
      refine WX.next ?_
      refine W.sub [(0, _), (3, _), (6, _), (7, _), (8, _)] (.cons rfl (.cons rfl (.cons rfl (.cons rfl (.cons rfl .nil))))) ?_
      refine W.block ?_
      refine W.loop (ι := Nat × Option Addr × Nat × List UInt8) (fun s => [(0, .slice B xs.length c), (3, .slice B3 D.length c3), (6, .int .i64 (D.length : Int)), (7, .slice s.2.1 s.2.2.2.length s.2.2.1), (8, .int .i64 (s.1 : Int))]) (fun s w' => s.1 ≤ 4 ∧ s.2.2.2 = l ++ app D.length s.1 ∧ Mem w0 w' (TX.T ⟨A, cap, l.length, s.2.1, s.2.2.1, s.2.2.2⟩ :: Asr.own 32 1 B3 D.length c3 (D.map TX.v2) :: OU :: (post.map OX.O ++ (D.map TX.T ++ L)))) (fun s => 4 - s.1) ((0, A, cap, l)) (by (repeat' (first | exact envSub.nil | refine envSub.cons ?_ ?_)) <;> first | rfl | (refine congrArg some ?_; refine congrArg (Value.int _) ?_; first | omega | (dsimp only; omega)) | (simp; done) | (refine congrArg some ?_; dsimp only; congr 1; omega) | (simp; omega)) ⟨by dsimp only; omega, by simp [app], M2'⟩ ?_
      rintro ⟨k, A2, cap2, l2⟩ w3 ⟨hk, hl2, M3⟩; dsimp only at hk hl2 M3 ⊢
      have hl2n : l2.length = l.length + k := by rw [hl2, List.length_append, app_length]
      refine W.sub [(0, _), (3, _), (6, _), (7, _), (8, _)] (.cons rfl (.cons rfl (.cons rfl (.cons rfl (.cons rfl .nil))))) ?_
      refine W.seq ?_
      refine W.seq ?_
      refine W.region ?_
      refine WL.move rfl rfl ?_
      refine WL.lss rfl rfl rfl ?_
      refine WL.nil ?_
      refine WX.next ?_
      refine W.sub [(0, _), (3, _), (6, _), (7, _), (8, _), (51, _)] (.cons rfl (.cons rfl (.cons rfl (.cons rfl (.cons rfl (.cons rfl .nil)))))) ?_
      refine W.ite rfl (fun c3 => ?_) (fun c3 => ?_)
      · refine W.skip ?_
        refine WX.next ?_
        refine W.seq ?_
        refine W.block ?_
        refine W.region ?_
        refine WL.move rfl rfl ?_
        refine WL.move rfl rfl ?_
        refine WL.mul rfl rfl (by first | exact wI64 (by omega) | rfl) rfl ?_
        refine WL.add rfl rfl (by first | exact wI64 (by omega) | rfl) rfl ?_
        refine WL.move rfl rfl ?_
        refine WL.add rfl rfl (by first | exact wI64 (by omega) | rfl) rfl ?_
        refine WL.conv Try.underlying3 Try.underlying5 rfl (u8w _ (200 + D.length * 5 + k) (by omega)) rfl ?_
        refine WL.buildS Try.elem5 M3 rfl rfl rfl (by simp [Value.oneCell']) rfl rfl ?_
        intro g w4 M4
        refine WL.appendT (x := ⟨A, cap, l.length, A2, cap2, l2⟩) Try.elem5 rfl rfl M4.f1 (M4.rdOwnB (l := [ab D.length k])) rfl (by simp; omega) rfl ?_
        intro A3 cap3 w5 M5
        dsimp only at M5
        refine WL.assign rfl rfl ?_
        refine WL.nil ?_
        refine WX.blockNormal ?_
        refine WX.next ?_
        refine W.sub [(0, _), (3, _), (6, _), (7, _), (8, _)] (.cons rfl (.cons rfl (.cons rfl (.cons rfl (.cons rfl .nil))))) ?_
        refine W.region ?_
        refine WL.move rfl rfl ?_
        refine WL.add rfl rfl (by first | exact wI64 (by omega) | rfl) rfl ?_
        refine WL.assign rfl rfl ?_
        refine WL.nil ?_
        refine WX.round ((k + 1, A3, cap3, l2 ++ [ab D.length k])) (by (repeat' (first | exact envSub.nil | refine envSub.cons ?_ ?_)) <;> first | rfl | (refine congrArg some ?_; refine congrArg (Value.int _) ?_; first | omega | (dsimp only; omega)) | (simp; done) | (refine congrArg some ?_; dsimp only; congr 1; omega) | (simp; omega)) ⟨by dsimp only; omega, by dsimp only; rw [app_succ, hl2, List.append_assoc], M5.drop1⟩ (by first | omega | (dsimp only; omega))
      · obtain rfl : k = 4 := by omega
        refine W.exit ?_
        refine WX.thenExit ?_
        refine WX.thenExit ?_
        refine WX.blockHere ?_
        refine WX.next ?_
        refine W.region ?_
        refine WL.move rfl rfl ?_
        refine WL.move rfl rfl ?_
        refine WL.buildS Try.elem32 M3 rfl rfl rfl (by simp [Value.oneCell']) rfl rfl ?_
        intro g w4 M4
        refine WL.append Try.elem32 rfl rfl M4.f2 M4.rdOwn (by simp [Value.oneCell']) (by omega) (by simp only [maxLen]; omega) rfl ?_
        intro B4 c4 w5 M5
        refine WL.assign rfl rfl ?_
        refine WL.nil ?_
        refine WX.blockNormal ?_
        refine WX.next ?_
        refine W.sub [(0, _), (3, _), (6, _)] (.cons rfl (.cons rfl (.cons rfl .nil))) ?_
        refine W.region ?_
        refine WL.move rfl rfl ?_
        refine WL.add rfl rfl (by first | exact wI64 (by omega) | rfl) rfl ?_
        refine WL.assign rfl rfl ?_
        refine WL.nil ?_
        have e1 : (D ++ [TX.mk A cap l.length A2 cap2 l2]).length = D.length + 1 := by simp
        have e2 : (OX.mk A cap l :: post).length = post.length + 1 := rfl
        have q1 : (D ++ [TX.mk A cap l.length A2 cap2 l2]).map TX.v ++ post.map OX.v = xs.map OX.v := by
          rw [← hs2]
          simp [OX.v, TX.v]
        have q2 : ∀ j x, (D ++ [TX.mk A cap l.length A2 cap2 l2])[j]? = some x → x.l = pat j x.n ++ app j 4 := by
          intro j x hj
          rw [List.getElem?_append] at hj
          split at hj
          · exact hD j x hj
          · have hj0 : j - D.length = 0 := by
              have := (List.getElem?_eq_some_iff.1 hj).1
              simp at this
              omega
            rw [hj0] at hj
            obtain rfl : (⟨A, cap, l.length, A2, cap2, l2⟩ : TX) = x := by simpa using hj
            obtain rfl : j = D.length := by omega
            dsimp only
            rw [hl2, ← hl]
        have q3 : ∀ j x, post[j]? = some x → x.l = pat ((D ++ [TX.mk A cap l.length A2 cap2 l2]).length + j) x.l.length := by
          intro j x hj
          have := hP (j + 1) x (by simpa using hj)
          rw [List.length_append, List.length_singleton, show D.length + 1 + j = D.length + (j + 1) by omega]
          exact this
        have q4 : ∀ x ∈ post, x.l.length ≤ 140737488351232 := fun x hx => hb2 x (List.mem_cons_of_mem _ hx)
        have q5 : Mem w0 w5 (Asr.own 32 1 B4 (D ++ [TX.mk A cap l.length A2 cap2 l2]).length c4 ((D ++ [TX.mk A cap l.length A2 cap2 l2]).map TX.v2) :: OU :: (post.map OX.O ++ ((D ++ [TX.mk A cap l.length A2 cap2 l2]).map TX.T ++ L))) := by
          have M6 := M5.drop1
          rw [List.map_append, List.map_append, List.length_append, List.length_singleton]
          exact M6.perm (List.Perm.cons _ ((List.Perm.swap ..).trans (List.Perm.cons _ (perm_move _ _ _ _))))
        refine WX.round (((D ++ [TX.mk A cap l.length A2 cap2 l2], post), (B4, c4))) (by (repeat' (first | exact envSub.nil | refine envSub.cons ?_ ?_)) <;> first | rfl | (refine congrArg some ?_; refine congrArg (Value.int _) ?_; first | omega | (dsimp only; omega)) | (simp; done) | (refine congrArg some ?_; dsimp only; congr 1; omega) | (simp; omega)) ⟨q1, q2, q3, q4, q5⟩ (by first | omega | (dsimp only; omega))
    · obtain rfl : post = [] := List.eq_nil_of_length_eq_zero (by omega)
      refine W.exit ?_
      refine WX.thenExit ?_
      refine WX.thenExit ?_
      refine WX.blockHere ?_
      refine WX.next ?_
      refine W.seq ?_
      refine W.seq ?_
      refine W.region ?_
      refine WL.assign rfl rfl ?_
      refine WL.nil ?_
      refine WX.next ?_
      refine W.sub [(0, _), (3, _), (9, _)] (.cons rfl (.cons rfl (.cons rfl .nil))) ?_
      refine W.block ?_
      refine W.loop (ι := Nat) (fun i => [(0, .slice B xs.length c), (3, .slice B3 D.length c3), (9, .int .i64 (i : Int))]) (fun i w' => i ≤ D.length ∧ w2 = w') (fun i => D.length - i) (0) (by (repeat' (first | exact envSub.nil | refine envSub.cons ?_ ?_)) <;> first | rfl | (refine congrArg some ?_; refine congrArg (Value.int _) ?_; first | omega | (dsimp only; omega)) | (simp; done) | (refine congrArg some ?_; dsimp only; congr 1; omega) | (simp; omega)) ⟨by omega, rfl⟩ ?_
      rintro i _ ⟨hi, rfl⟩
      refine W.sub [(0, _), (3, _), (9, _)] (.cons rfl (.cons rfl (.cons rfl .nil))) ?_
      refine W.seq ?_
      refine W.seq ?_
      refine W.region ?_
      refine WL.move rfl rfl ?_
      refine WL.move rfl rfl ?_
      refine WL.len Try.underlying52 rfl rfl ?_
      refine WL.lss rfl rfl rfl ?_
      refine WL.nil ?_
      refine WX.next ?_
      refine W.sub [(0, _), (3, _), (9, _), (70, _)] (.cons rfl (.cons rfl (.cons rfl (.cons rfl .nil)))) ?_
      refine W.ite rfl (fun c4 => ?_) (fun c4 => ?_)
      · obtain ⟨⟨A, cap, n, A2, cap2, l⟩, hx⟩ : ∃ x, D[i]? = some x := ⟨_, List.getElem?_eq_getElem (by omega)⟩
        have hl := hD i _ hx
        dsimp only at hl
        have hxo : (xs.map OX.v)[i]? = some (.slice A n cap) := by
          rw [← hs2, List.map_nil, List.append_nil, List.getElem?_map, hx]
          rfl
        have hn : n ≤ 140737488351232 := by
          rw [List.getElem?_map] at hxo
          obtain ⟨y, hy, hyv⟩ := Option.map_eq_some_iff.1 hxo
          have h1 := hxl y (List.mem_of_getElem? hy)
          have h2 : y.l.length = n := by
            unfold OX.v at hyv
            exact (Value.slice.inj hyv).2.1
          omega
        have hx2 : (D.map TX.v2)[i]? = some (.slice A2 l.length cap2) := by
          rw [List.getElem?_map, hx]
          rfl
        obtain ⟨hown, hrd, hnl, _⟩ := Sep.mem M2.sep (TX.T ⟨A, cap, n, A2, cap2, l⟩) (List.mem_cons_of_mem _ (List.mem_cons_of_mem _ (by
          simp only [List.map_nil, List.nil_append]
          exact List.mem_append_left _ (List.mem_map.2 ⟨_, List.mem_of_getElem? hx, rfl⟩))))
        dsimp only at hown hrd hnl
        have hr2 := ownRd hown
        have htk : l.take n = pat i n := by rw [hl, List.take_left' (pat_length i n)]
        rw [htk] at hrd
        have hll : l.length = n + 4 := by rw [hl, List.length_append, pat_length, app_length]
        have hvp : ∀ k, k < n → (bs (pat i n))[k]? = some (bv (pb i k)) := fun k hk => by rw [bs_get, pat_get hk]; rfl
        have hva : ∀ k, k < 4 → (bs l)[n + k]? = some (bv (ab i k)) := fun k hk => by
          rw [bs_get, hl, List.getElem?_append_right (by rw [pat_length]; omega), pat_length, show n + k - n = k by omega, app_get hk]
          rfl
        refine W.skip ?_
        refine WX.next ?_
        refine W.seq ?_
        refine W.block ?_
        refine W.seq ?_
        refine W.region ?_
        refine WL.move rfl rfl ?_
        refine WL.move rfl rfl ?_
        refine WL.idx1 Try.underlying52 Try.sizeOf32 rfl rfl (rdO M2.tail) (by rw [Int.toNat_natCast]; exact hxo) (by omega) rfl ?_
        intro ad21 had21
        refine WL.load Try.isAgg32 rfl had21 rfl ?_
        refine WL.len Try.underlying32 rfl rfl ?_
        refine WL.assign rfl rfl ?_
        refine WL.nil ?_
        refine WX.next ?_
        refine W.sub [(0, _), (3, _), (9, _), (10, _)] (.cons rfl (.cons rfl (.cons rfl (.cons rfl .nil)))) ?_
        refine W.seq ?_
        refine W.seq ?_
        refine W.region ?_
        refine WL.assign rfl rfl ?_
        refine WL.nil ?_
        refine WX.next ?_
        refine W.sub [(0, _), (3, _), (9, _), (10, _), (11, _)] (.cons rfl (.cons rfl (.cons rfl (.cons rfl (.cons rfl .nil))))) ?_
        refine W.block ?_
        refine W.loop (ι := Nat) (fun k => [(0, .slice B xs.length c), (3, .slice B3 D.length c3), (9, .int .i64 (i : Int)), (10, .int .i64 (n : Int)), (11, .int .i64 (k : Int))]) (fun k w' => k ≤ n ∧ w2 = w') (fun k => n - k) (0) (by (repeat' (first | exact envSub.nil | refine envSub.cons ?_ ?_)) <;> first | rfl | (refine congrArg some ?_; refine congrArg (Value.int _) ?_; first | omega | (dsimp only; omega)) | (simp; done) | (refine congrArg some ?_; dsimp only; congr 1; omega) | (simp; omega)) ⟨by omega, rfl⟩ ?_
        rintro k _ ⟨hk, rfl⟩
        refine W.sub [(0, _), (3, _), (9, _), (10, _), (11, _)] (.cons rfl (.cons rfl (.cons rfl (.cons rfl (.cons rfl .nil))))) ?_
        refine W.seq ?_
        refine W.seq ?_
        refine W.region ?_
        refine WL.move rfl rfl ?_
        refine WL.move rfl rfl ?_
        refine WL.lss rfl rfl rfl ?_
        refine WL.nil ?_
        refine WX.next ?_
        refine W.sub [(0, _), (3, _), (9, _), (10, _), (11, _), (80, _)] (.cons rfl (.cons rfl (.cons rfl (.cons rfl (.cons rfl (.cons rfl .nil)))))) ?_
        refine W.ite rfl (fun c5 => ?_) (fun c5 => ?_)
        · refine W.skip ?_
          refine WX.next ?_
          refine W.seq ?_
          refine W.block ?_
          refine W.seq ?_
          refine W.region ?_
          refine WL.move rfl rfl ?_
          refine WL.move rfl rfl ?_
          refine WL.idx1 Try.underlying52 Try.sizeOf32 rfl rfl (rdO M2.tail) (by rw [Int.toNat_natCast]; exact hxo) (by omega) rfl ?_
          intro ad25 had25
          refine WL.load Try.isAgg32 rfl had25 rfl ?_
          refine WL.move rfl rfl ?_
          refine WL.idx1 Try.underlying32 Try.sizeOf5 rfl rfl hrd (by rw [Int.toNat_natCast]; exact hvp k (by omega)) (by omega) rfl ?_
          intro ae25 hae25
          refine WL.load Try.isAgg5 rfl hae25 rfl ?_
          refine WL.move rfl rfl ?_
          refine WL.mul rfl rfl (by first | exact wI64 (by omega) | rfl) rfl ?_
          refine WL.move rfl rfl ?_
          refine WL.rem rfl rfl (by omega) (remN (by omega)) rfl ?_
          refine WL.add rfl rfl (by first | exact wI64 (by omega) | rfl) rfl ?_
          refine WL.conv Try.underlying3 Try.underlying5 rfl (u8w _ (i * 31 + k % 7) (by omega)) rfl ?_
          refine WL.neI rfl rfl rfl ?_
          refine WL.nil ?_
          refine WX.next ?_
          refine W.sub [(0, _), (3, _), (9, _), (10, _), (11, _), (96, _)] (.cons rfl (.cons rfl (.cons rfl (.cons rfl (.cons rfl (.cons rfl .nil)))))) ?_
          refine W.ite rfl (fun c6 => ?_) (fun c6 => ?_)
          · exact absurd rfl c6
          · refine W.skip ?_
            refine WX.blockNormal ?_
            refine WX.next ?_
            refine W.region ?_
            refine WL.move rfl rfl ?_
            refine WL.add rfl rfl (by first | exact wI64 (by omega) | rfl) rfl ?_
            refine WL.assign rfl rfl ?_
            refine WL.nil ?_
            refine WX.round (k + 1) (by (repeat' (first | exact envSub.nil | refine envSub.cons ?_ ?_)) <;> first | rfl | (refine congrArg some ?_; refine congrArg (Value.int _) ?_; first | omega | (dsimp only; omega)) | (simp; done) | (refine congrArg some ?_; dsimp only; congr 1; omega) | (simp; omega)) ⟨by omega, rfl⟩ (by first | omega | (dsimp only; omega))
        · refine W.exit ?_
          refine WX.thenExit ?_
          refine WX.thenExit ?_
          refine WX.blockHere ?_
          refine WX.next ?_
          refine W.seq ?_
          refine W.region ?_
          refine WL.assign rfl rfl ?_
          refine WL.nil ?_
          refine WX.next ?_
          refine W.sub [(0, _), (3, _), (9, _), (10, _), (12, _)] (.cons rfl (.cons rfl (.cons rfl (.cons rfl (.cons rfl .nil))))) ?_
          refine W.block ?_
          refine W.loop (ι := Nat) (fun k => [(0, .slice B xs.length c), (3, .slice B3 D.length c3), (9, .int .i64 (i : Int)), (10, .int .i64 (n : Int)), (12, .int .i64 (k : Int))]) (fun k w' => k ≤ 4 ∧ w2 = w') (fun k => 4 - k) (0) (by (repeat' (first | exact envSub.nil | refine envSub.cons ?_ ?_)) <;> first | rfl | (refine congrArg some ?_; refine congrArg (Value.int _) ?_; first | omega | (dsimp only; omega)) | (simp; done) | (refine congrArg some ?_; dsimp only; congr 1; omega) | (simp; omega)) ⟨by omega, rfl⟩ ?_
          rintro k _ ⟨hk, rfl⟩
          refine W.sub [(0, _), (3, _), (9, _), (10, _), (12, _)] (.cons rfl (.cons rfl (.cons rfl (.cons rfl (.cons rfl .nil))))) ?_
          refine W.seq ?_
          refine W.seq ?_
          refine W.region ?_
          refine WL.move rfl rfl ?_
          refine WL.lss rfl rfl rfl ?_
          refine WL.nil ?_
          refine WX.next ?_
          refine W.sub [(0, _), (3, _), (9, _), (10, _), (12, _), (98, _)] (.cons rfl (.cons rfl (.cons rfl (.cons rfl (.cons rfl (.cons rfl .nil)))))) ?_
          refine W.ite rfl (fun c7 => ?_) (fun c7 => ?_)
          · refine W.skip ?_
            refine WX.next ?_
            refine W.seq ?_
            refine W.block ?_
            refine W.seq ?_
            refine W.region ?_
            refine WL.move rfl rfl ?_
            refine WL.move rfl rfl ?_
            refine WL.idx1 Try.underlying52 Try.sizeOf32 rfl rfl M2.rdOwn (by rw [Int.toNat_natCast]; exact hx2) (by omega) rfl ?_
            intro ad30 had30
            refine WL.load Try.isAgg32 rfl had30 rfl ?_
            refine WL.move rfl rfl ?_
            refine WL.move rfl rfl ?_
            refine WL.add rfl rfl (by first | exact wI64 (by omega) | rfl) rfl ?_
            refine WL.idx1 Try.underlying32 Try.sizeOf5 rfl rfl hr2 (by rw [show ((n : Int) + (k : Int)).toNat = n + k by omega]; exact hva k (by omega)) (by omega) rfl ?_
            intro ae30 hae30
            refine WL.load Try.isAgg5 rfl hae30 rfl ?_
            refine WL.move rfl rfl ?_
            refine WL.mul rfl rfl (by first | exact wI64 (by omega) | rfl) rfl ?_
            refine WL.add rfl rfl (by first | exact wI64 (by omega) | rfl) rfl ?_
            refine WL.move rfl rfl ?_
            refine WL.add rfl rfl (by first | exact wI64 (by omega) | rfl) rfl ?_
            refine WL.conv Try.underlying3 Try.underlying5 rfl (u8w _ (200 + i * 5 + k) (by omega)) rfl ?_
            refine WL.neI rfl rfl rfl ?_
            refine WL.nil ?_
            refine WX.next ?_
            refine W.sub [(0, _), (3, _), (9, _), (10, _), (12, _), (116, _)] (.cons rfl (.cons rfl (.cons rfl (.cons rfl (.cons rfl (.cons rfl .nil)))))) ?_
            refine W.ite rfl (fun c8 => ?_) (fun c8 => ?_)
            · exact absurd rfl c8
            · refine W.skip ?_
              refine WX.blockNormal ?_
              refine WX.next ?_
              refine W.region ?_
              refine WL.move rfl rfl ?_
              refine WL.add rfl rfl (by first | exact wI64 (by omega) | rfl) rfl ?_
              refine WL.assign rfl rfl ?_
              refine WL.nil ?_
              refine WX.round (k + 1) (by (repeat' (first | exact envSub.nil | refine envSub.cons ?_ ?_)) <;> first | rfl | (refine congrArg some ?_; refine congrArg (Value.int _) ?_; first | omega | (dsimp only; omega)) | (simp; done) | (refine congrArg some ?_; dsimp only; congr 1; omega) | (simp; omega)) ⟨by omega, rfl⟩ (by first | omega | (dsimp only; omega))
          · refine W.exit ?_
            refine WX.thenExit ?_
            refine WX.thenExit ?_
            refine WX.blockHere ?_
            refine WX.blockNormal ?_
            refine WX.next ?_
            refine W.region ?_
            refine WL.move rfl rfl ?_
            refine WL.add rfl rfl (by first | exact wI64 (by omega) | rfl) rfl ?_
            refine WL.assign rfl rfl ?_
            refine WL.nil ?_
            refine WX.round (i + 1) (by (repeat' (first | exact envSub.nil | refine envSub.cons ?_ ?_)) <;> first | rfl | (refine congrArg some ?_; refine congrArg (Value.int _) ?_; first | omega | (dsimp only; omega)) | (simp; done) | (refine congrArg some ?_; dsimp only; congr 1; omega) | (simp; omega)) ⟨by omega, rfl⟩ (by first | omega | (dsimp only; omega))
      · refine W.exit ?_
        refine WX.thenExit ?_
        refine WX.thenExit ?_
        refine WX.blockHere ?_
        refine WX.next ?_
        refine W.seq ?_
        refine W.region ?_
        refine WL.assign rfl rfl ?_
        refine WL.nil ?_
        refine WX.next ?_
        refine W.sub [(2, _)] (.cons rfl .nil) ?_
        refine W.ret ?_
        refine WX.ret1 rfl rfl ?_
        exact ⟨rfl, Mem.dropl _ (Mem.dropl _ M2.tail.tail)⟩
end Go.Proofs.Ytmogpoghngmnmaa
