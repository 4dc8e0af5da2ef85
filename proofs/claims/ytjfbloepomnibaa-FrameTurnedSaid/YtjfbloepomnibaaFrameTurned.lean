/-
  Walk: seawalllaw02.FrameTurned.
-/
import Derived.Test.YtjfbloepomnibaaKnown02
import Derived.Test.YtjfbloepomnibaaFrameLaw
namespace Go.Proofs.Ytjfbloepomnibaa
open Go Go.RowKit Crc Bin

theorem shl8_all : ∀ e, e < 8 → IntKind.u8.wrap (1 * 2 ^ e) = ((2 ^ e : Nat) : Int) := by decide
theorem shl8 (N : Nat) : IntKind.u8.wrap (1 * 2 ^ ((N : Int) % 8).toNat) = ((2 ^ (N % 8) : Nat) : Int) := by
  rw [show ((N : Int) % 8).toNat = N % 8 by omega]
  exact shl8_all _ (by omega)
theorem pow8_all : ∀ e, e < 8 → 2 ^ e < 256 ∧ 0 < 2 ^ e := by decide

theorem FrameTurned_ok (k : UInt8) (l : List UInt8) (B : Option Addr) (kb : Nat) (t : Nat) (ht : t < 18446744073709551616) (w : World) (hb : RdB w B kb l) :
    Fn Try.prog 4 [.int .u8 (k.toNat : Int), .slice B l.length kb, .int .u64 (t : Int)] w fun v w' => v = .bool true ∧ Mem w w' [] := by
  have hE : putE l ≠ 0 ↔ 1024 < l.length := by unfold putE; split <;> simp <;> omega
  refine Fn.enter Try.func4 rfl Try.ntmps4 rfl ?_
  refine W.sub [(0, _), (1, _), (2, _)] (.cons rfl (.cons rfl (.cons rfl .nil))) ?_
  refine W.seq ?_
  refine W.region ?_
  refine WL.assign rfl rfl ?_
  refine WL.nil ?_
  refine WX.next ?_
  refine W.sub [(0, _), (1, _), (2, _)] (.cons rfl (.cons rfl (.cons rfl .nil))) ?_
  refine W.seq ?_
  refine W.region ?_
  refine WL.move rfl rfl ?_
  refine WL.move rfl rfl ?_
  refine WL.call Try.call14 rfl (Put_ok k l B kb w hb) rfl ?_
  rintro _ w1 ⟨A1, cap1, rfl, m1⟩
  refine WL.move rfl rfl ?_
  refine WL.extract rfl rfl rfl ?_
  refine WL.extract rfl rfl rfl ?_
  refine WL.assign rfl rfl ?_
  refine WL.assign rfl rfl ?_
  refine WL.nil ?_
  refine WX.next ?_
  refine W.sub [(1, _), (2, _), (7, _), (8, _)] (.cons rfl (.cons rfl (.cons rfl (.cons rfl .nil)))) ?_
  refine W.seq ?_
  refine W.seq ?_
  refine W.region ?_
  refine WL.move rfl rfl ?_
  refine WL.neI rfl rfl rfl ?_
  refine WL.nil ?_
  refine WX.next ?_
  refine W.sub [(1, _), (2, _), (7, _), (20, _)] (.cons rfl (.cons rfl (.cons rfl (.cons rfl .nil)))) ?_
  refine W.ite rfl (fun c0 => ?_) (fun c0 => ?_)
  · refine W.seq ?_
    refine W.region ?_
    refine WL.move rfl rfl ?_
    refine WL.len Try.underlying22 rfl rfl ?_
    refine WL.gtr rfl rfl rfl ?_
    refine WL.moveIf rfl rfl (fun c1 => ?_) (fun c1 => ?_)
    · refine WL.on rfl rfl ?_
      refine WL.call Try.call10 rfl (known2_ok w1) rfl ?_
      rintro _ w2 ⟨rfl, m2⟩
      refine WL.pickT rfl rfl rfl ?_
      refine WL.assign rfl rfl ?_
      refine WL.nil ?_
      refine WX.next ?_
      refine W.sub [(6, _)] (.cons rfl .nil) ?_
      refine W.ret ?_
      refine WX.thenRet ?_
      refine WX.ret1 rfl rfl ?_
      exact ⟨by simp, (m1.call m2).nil⟩
    · exact absurd (hE.1 c0) (by omega)
  · skip
    have hl : l.length ≤ 1024 := by
      refine Nat.le_of_not_lt fun h => c0 (hE.2 h)
    have hpl := putG_length (k := k) hl
    obtain ⟨p, hp⟩ : ∃ p, p = putG k l := ⟨_, rfl⟩
    rw [← hp] at m1 hpl ⊢
    refine W.skip ?_
    refine WX.next ?_
    refine W.seq ?_
    refine W.seq ?_
    refine W.region ?_
    refine WL.move rfl rfl ?_
    refine WL.len Try.underlying22 rfl rfl ?_
    refine WL.move rfl rfl ?_
    refine WL.len Try.underlying22 rfl rfl ?_
    refine WL.add rfl rfl (by first | exact wI64 (by omega) | rfl) rfl ?_
    refine WL.neI rfl rfl rfl ?_
    refine WL.nil ?_
    refine WX.next ?_
    refine W.sub [(1, _), (2, _), (7, _), (32, _)] (.cons rfl (.cons rfl (.cons rfl (.cons rfl .nil)))) ?_
    refine W.ite rfl (fun c2 => ?_) (fun c2 => ?_)
    · exact absurd (by omega) c2
    · refine W.skip ?_
      refine WX.next ?_
      refine W.seq ?_
      refine W.region ?_
      refine WL.move rfl rfl ?_
      refine WL.move rfl rfl ?_
      refine WL.len Try.underlying22 rfl rfl ?_
      refine WL.add rfl rfl (by first | exact wI64 (by omega) | rfl) rfl ?_
      refine WL.mul rfl rfl (by first | exact wI64 (by omega) | rfl) rfl ?_
      refine WL.conv Try.underlying3 Try.underlying36 rfl (by first | exact wU64 (by omega) | exact mU64 _ | rfl) rfl ?_
      refine WL.rem rfl rfl (by omega) (remN (by omega)) rfl ?_
      obtain ⟨N, hN⟩ : ∃ N : Nat, (t : Int) % (8 * ((l.length : Int) + 4)) = (N : Int) := ⟨((t : Int) % (8 * ((l.length : Int) + 4))).toNat, by
        have := Int.emod_nonneg (t : Int) (show 8 * ((l.length : Int) + 4) ≠ 0 by omega)
        omega⟩
      have hN2 : N < 8 * (l.length + 4) := by
        have := Int.emod_lt_of_pos (t : Int) (show 0 < 8 * ((l.length : Int) + 4) by omega)
        omega
      rw [hN]
      refine WL.conv Try.underlying36 Try.underlying3 rfl (by first | exact wI64 (by omega) | rfl) rfl ?_
      refine WL.assign rfl rfl ?_
      skip
      obtain ⟨g, sp, rfl, M, hcl, hcm, hnc, hvl⟩ := m1.ownRow (by
        rintro rfl
        have h0 := m1.head.2
        rcases h0 with ⟨_, h0, _⟩ | ⟨_, _, h0, _⟩
        · omega
        · cases h0)
      obtain ⟨x, hx⟩ : ∃ x, p[6 + N / 8]? = some x := ⟨_, List.getElem?_eq_getElem (by omega)⟩
      have hx8 := UInt8.toNat_lt x
      have hpw := pow8_all (N % 8) (by omega)
      have hcell : w1.drew.cell? ⟨g, 6 + N / 8, none⟩ = some (.int .u8 (x.toNat : Int)) := by
        rw [M.drew.cell, List.getElem?_append_left (by rw [bs_length]; omega), bs_get, hx]
        rfl
      refine WL.nil ?_
      refine WX.next ?_
      refine W.sub [(7, _), (9, _)] (.cons rfl (.cons rfl .nil)) ?_
      refine W.seq ?_
      refine W.draw (by kernel_rfl) (fun w' => w'.cell? ⟨g, 6 + N / 8, none⟩ = some (.int .u8 (x.toNat : Int))) (fun j => !([15].contains j)) ?_
      apply DG.take [0, 1, 2, 3, 4, 5, 6, 7, 8, 9, 10, 11, 12, 13, 14] 1 rfl (by kernel_rfl) (by kernel_rfl) (hcell)
      · intro wS hS
        refine WL.move rfl rfl ?_
        refine WL.move rfl rfl ?_
        refine WL.quo rfl rfl (by omega) (quoI64 (by omega)) rfl ?_
        refine WL.add rfl rfl (by first | exact wI64 (by omega) | rfl) rfl ?_
        refine WL.move rfl rfl ?_
        refine WL.move rfl rfl ?_
        refine WL.quo rfl rfl (by omega) (quoI64 (by omega)) rfl ?_
        refine WL.add rfl rfl (by first | exact wI64 (by omega) | rfl) rfl ?_
        refine WL.idxAt (o' := 6 + N / 8) Try.underlying22 Try.sizeOf5 rfl rfl (by omega) (by omega) (by omega) rfl ?_
        refine WL.load Try.isAgg5 rfl hS rfl ?_
        refine WL.move rfl rfl ?_
        refine WL.rem rfl rfl (by omega) (remN (by omega)) rfl ?_
        refine WL.shl rfl rfl (by omega) (by show _ ≤ (8 : Int); omega) (shl8 N) rfl ?_
        refine WL.bxor rfl rfl (xorU8 x.toNat (2 ^ (N % 8)) hx8 hpw.1) rfl ?_
        refine WL.idxAt (o' := 6 + N / 8) Try.underlying22 Try.sizeOf5 rfl rfl (by omega) (by omega) (by omega) rfl ?_
        exact Chain.end_ rfl
      refine DG.step 15 0 rfl (by kernel_rfl) ?_
      refine WL.store M.drew Try.sizeOf5 rfl rfl rfl (by rw [List.length_append, bs_length]; omega) ?_
      intro w5 M5
      have hxl : x.toNat ^^^ 2 ^ (N % 8) < 256 := Nat.xor_lt_two_pow (n := 8) hx8 hpw.1
      rw [bv_ofNat hxl, List.set_append, if_pos (by rw [bs_length]; omega), bs_set] at M5
      obtain ⟨y, hy⟩ : ∃ y, y = UInt8.ofNat (x.toNat ^^^ 2 ^ (N % 8)) := ⟨_, rfl⟩
      have hyx : x ≠ y := by
        intro he
        have h1 := congrArg UInt8.toNat he
        rw [hy, u8_toNat hxl] at h1
        have h2 := congrArg (x.toNat ^^^ ·) h1
        simp only [← Nat.xor_assoc, Nat.xor_self, Nat.zero_xor] at h2
        omega
      rw [← hy] at M5
      have M6 := M5.rowOwn (n := (p.set (6 + N / 8) y).length) (size := 1) (cap := cap1) sp rfl (by simp [bs]) (by simp [bs] at hcl ⊢; omega) hcm (by rw [List.length_set]; exact hnc)
      have hgg : getG (p.set (6 + N / 8) y) 0 = (0, [], 0, 21) := by
        refine getG_bad (e := 21) (by omega) (by omega) ?_ (by omega)
        rw [show (0 : Int).toNat = 0 from rfl, List.drop_zero, hp]
        refine getR_turned k l hl (N / 8) (by omega) y ?_
        rw [← hp, hx]
        intro h
        exact hyx (Option.some.inj h)
      refine DG.go (G := fun j => !([15].contains j)) (i := 15) (f' := 0) (done := [0, 1, 2, 3, 4, 5, 6, 7, 8, 9, 10, 11, 12, 13, 14]) (fun h => by cases h) ?_
      refine DG.end_ (by kernel_rfl) ?_
      refine WX.next ?_
      refine W.sub [(7, _)] (.cons rfl .nil) ?_
      refine W.seq ?_
      refine W.region ?_
      refine WL.move rfl rfl ?_
      refine WL.call Try.call20 rfl ((by rw [show p.length = (p.set (6 + N / 8) y).length by rw [List.length_set]]; exact Get_ok (p.set (6 + N / 8) y) (some ⟨g, 0, none⟩) cap1 0 w5 M6.rdOwnB (by rw [List.length_set]; omega) (by omega))) rfl ?_
      rintro _ w6 hgot
      rw [hgg] at hgot
      obtain ⟨A6, cap6, rfl, m6⟩ := hgot
      have M7 := M6.call m6
      refine WL.move rfl rfl ?_
      refine WL.extract rfl rfl rfl ?_
      refine WL.extract rfl rfl rfl ?_
      refine WL.extract rfl rfl rfl ?_
      refine WL.alloc Try.zeroValue38 M7 rfl ?_
      intro g8 w8 m8
      refine WL.storeW m8 Try.sizeOf38 rfl rfl (by simp [Value.cells, Value.oneCell']) rfl rfl ?_
      intro w9 m9
      refine WL.assign rfl rfl ?_
      refine WL.assign rfl rfl ?_
      refine WL.nil ?_
      refine WX.next ?_
      refine W.sub [(10, _), (11, _), (12, _)] (.cons rfl (.cons rfl (.cons rfl .nil))) ?_
      refine W.seq ?_
      refine W.region ?_
      refine WL.move rfl rfl ?_
      refine WL.eqI rfl rfl rfl ?_
      refine WL.moveIf rfl rfl (fun c3 => ?_) (fun c3 => ?_)
      · refine WL.on rfl rfl ?_
        refine WL.fieldAddr Try.underlying38 rfl rfl (fun _ => by first | rfl | simp [fieldPlace]) rfl ?_
        refine WL.on rfl rfl ?_
        refine WL.load Try.isAgg5 rfl ((m9.nth 0 rfl).cells 0 _ rfl) rfl ?_
        refine WL.on rfl rfl ?_
        refine WL.eqI rfl rfl rfl ?_
        refine WL.pickT rfl rfl rfl ?_
        refine WL.moveIf rfl rfl (fun c4 => ?_) (fun c4 => ?_)
        · refine WL.on rfl rfl ?_
          refine WL.fieldAddr Try.underlying38 rfl rfl (fun _ => by first | rfl | simp [fieldPlace]) rfl ?_
          refine WL.on rfl rfl ?_
          refine WL.load Try.isAgg22 rfl ((m9.nth 0 rfl).cells 1 _ rfl) rfl ?_
          refine WL.on rfl rfl ?_
          refine WL.len Try.underlying22 rfl rfl ?_
          refine WL.on rfl rfl ?_
          refine WL.eqI rfl rfl rfl ?_
          refine WL.pickT rfl rfl rfl ?_
          refine WL.moveIf rfl rfl (fun c5 => ?_) (fun c5 => ?_)
          · refine WL.on rfl rfl ?_
            refine WL.move rfl rfl ?_
            refine WL.on rfl rfl ?_
            refine WL.eqI rfl rfl rfl ?_
            refine WL.pickT rfl rfl rfl ?_
            refine WL.moveIf rfl rfl (fun c6 => ?_) (fun c6 => ?_)
            · refine WL.on rfl rfl ?_
              refine WL.call Try.call10 rfl (known2_ok w9) rfl ?_
              rintro _ w10 ⟨rfl, m10⟩
              refine WL.pickT rfl rfl rfl ?_
              refine WL.assign rfl rfl ?_
              refine WL.nil ?_
              refine WX.next ?_
              refine W.sub [(6, _)] (.cons rfl .nil) ?_
              refine W.ret ?_
              refine WX.ret1 rfl rfl ?_
              exact ⟨by simp, (m9.call m10).nil⟩
            · exact absurd rfl c6
          · exact absurd rfl c5
        · exact absurd rfl c4
      · exact absurd rfl c3
end Go.Proofs.Ytjfbloepomnibaa
