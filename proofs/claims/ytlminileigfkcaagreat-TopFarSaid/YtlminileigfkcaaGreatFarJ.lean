/-
  Rules, laws and walks, part 10 of 11.
-/
import Derived.Test.YtlminileigfkcaaGreatFarI
import Derived.Test.YtlminileigfkcaaGreatRows
import Derived.WalkKit
import Derived.ProofKit
import Derived.OpenShut
import Derived.ShutString
import Derived.ChangeOld
import Derived.Below
import Derived.Deep.Slices
namespace Go.Proofs.YtlminileigfkcaaGreat
open Go Go.RowKit Go.Lib Crc Bin
/-- What opening a disk answers, one way or the other. -/
def OpensA (d : Dk) (g : Nat) (p : Option Addr) (e : Nat) (X : List Asr) : Prop :=
 (loadL (openW d).2.1.l [] = none ∧ p = none ∧ e = 50) ∨ ∃ x : SaX, loadL (openW d).2.1.l [] = some x.l ∧ p = some ⟨x.g, 0, none⟩ ∧ e = 0 ∧ x.wx.gd = g ∧ x.wx.h = halfD d ∧ x.wx.s = (openW d).2.1 ∧ x.dead = false ∧ x.ok ∧ X = [x.O]
def OpensB (d : Dk) (g : Nat) (p : Option Addr) (e : Nat) (X : List Asr) : Prop :=
 (loadL (openW d).2.1.l [] = none ∧ p = none ∧ e = 50) ∨ ∃ x : SbX, loadL (openW d).2.1.l [] = some x.l ∧ p = some ⟨x.g, 0, none⟩ ∧ e = 0 ∧ x.wx.gd = g ∧ x.wx.s = (openW d).2.1 ∧ x.dead = false ∧ x.ok (halfD d) ∧ X = [x.O]
section
variable (w0 w : World) (L L' : List Asr)
theorem stOpen2_ok (k : DkX) (hok : k.d.ok) (hup : k.d.up) (h6 : 6 ≤ k.d.safe.length) (hwa : k.d.waits.length ≤ 90000) (M : Mem w0 w L) (hd : Del k.O L L') :
 Fn Tryz.prog 7 [.pointer (some ⟨k.g, 0, none⟩)] w fun v w' => ∃ (k' : DkX) (p : Option Addr) (e : Nat) (X : List Asr), v = .tuple #[.pointer p, .int .i64 (e : Int)] ∧ k'.g = k.g ∧ k'.d = (openW k.d).2.2 ∧ k'.d.ok ∧ k'.d.safe.length = k.d.safe.length ∧ k'.d.waits.length ≤ k.d.waits.length + 1100 ∧ OpensA k.d k.g p e X ∧ Mem w0 w' (Asr.star X :: k'.O :: L') := by
 refine (stOpen_ok k hok hup h6 hwa w0 w L L' M hd).mono fun v w' h => ?_
 obtain ⟨k', a1, a2, a3, a4, a5, h⟩ := h
 rcases h with ⟨b1, rfl, M⟩ | ⟨x, b1, rfl, b2, b3, b4, b5, b6, M⟩
 ·exact ⟨k', none, 50, [], rfl, a1, a2, a3, a4, a5, .inl ⟨b1, rfl, rfl⟩, M.starNil⟩
 ·exact ⟨k', _, 0, [x.O], rfl, a1, a2, a3, a4, a5, .inr ⟨x, b1, rfl, rfl, b2, b3, b4, b5, b6, rfl⟩, M.star1⟩
theorem rsOpen2_ok (k : RdX) (hok : k.d.ok) (hup : k.d.up) (h6 : 6 ≤ k.d.safe.length) (hsm : k.d.safe.length ≤ 1000) (hwa : k.d.waits.length ≤ 90000) (M : Mem w0 w L) (hd : Del k.O L L') :
 Fn Tryz.prog 8 [.pointer (some ⟨k.g, 0, none⟩)] w fun v w' => ∃ (k' : RdX) (p : Option Addr) (e : Nat) (X : List Asr), v = .tuple #[.pointer p, .int .i64 (e : Int)] ∧ k'.g = k.g ∧ k'.d = (openW k.d).2.2 ∧ k'.d.ok ∧ k'.d.safe.length = k.d.safe.length ∧ k'.d.waits.length ≤ k.d.waits.length + 1100 ∧ OpensB k.d k.g p e X ∧ Mem w0 w' (Asr.star X :: k'.O :: L') := by
 refine (rsOpen_ok w0 w L L' k hok hup h6 hsm hwa M hd).mono fun v w' h => ?_
 obtain ⟨k', a1, a2, a3, a4, a5, h⟩ := h
 rcases h with ⟨b1, rfl, M⟩ | ⟨x, b1, rfl, b2, b4, b5, b6, M⟩
 ·exact ⟨k', none, 50, [], rfl, a1, a2, a3, a4, a5, .inl ⟨b1, rfl, rfl⟩, M.starNil⟩
 ·exact ⟨k', _, 0, [x.O], rfl, a1, a2, a3, a4, a5, .inr ⟨x, b1, rfl, rfl, b2, b4, b5, b6, rfl⟩, M.star1⟩
end
theorem open_l0 : loadL (openW (Dk.start 60)).2.1.l [] = some [] := by rw [open_start]; rfl
theorem OpensA.start {d : Dk} {g : Nat} {p : Option Addr} {e : Nat} {X : List Asr} (hd : d = Dk.start 60) (h : OpensA d g p e X) : ∃ x : SaX, p = some ⟨x.g, 0, none⟩ ∧ e = 0 ∧ x.wx.gd = g ∧ x.wx.h = 29 ∧ x.s = ⟨(openW (Dk.start 60)).2.1, [], false⟩ ∧ x.ok ∧ X = [x.O] := by
 subst hd
 rcases h with ⟨h, _⟩ | ⟨x, h1, h2, h3, h4, h5, h6, h7, h8, h9⟩
 ·rw [open_l0] at h; cases h
 ·rw [open_l0] at h1
  have hl : x.l = [] := (Option.some.inj h1).symm
  refine ⟨x, h2, h3, h4, h5.trans (half60 List.length_replicate), ?_, h8, h9⟩
  unfold SaX.s
  rw [hl, h6, h7]
theorem OpensB.start {d : Dk} {g : Nat} {p : Option Addr} {e : Nat} {X : List Asr} (hd : d = Dk.start 60) (h : OpensB d g p e X) : ∃ x : SbX, p = some ⟨x.g, 0, none⟩ ∧ e = 0 ∧ x.wx.gd = g ∧ x.s = ⟨(openW (Dk.start 60)).2.1, [], false⟩ ∧ x.ok 29 ∧ X = [x.O] := by
 subst hd
 rcases h with ⟨h, _⟩ | ⟨x, h1, h2, h3, h4, h6, h7, h8, h9⟩
 ·rw [open_l0] at h; cases h
 ·rw [open_l0] at h1
  have hl : x.l = [] := (Option.some.inj h1).symm
  rw [half60 List.length_replicate] at h8
  refine ⟨x, h2, h3, h4, ?_, h8, h9⟩
  unfold SbX.s
  rw [hl, h6, h7]
theorem far_start : FarS ⟨(openW (Dk.start 60)).2.1, [], false⟩ := ⟨fun p hp => (by cases hp), fun _ => open_start, rfl⟩
theorem tmod60 (n : Nat) : ((n : Int)).tmod 60 = ((n % 60 : Nat) : Int) := rfl
set_option maxHeartbeats 8000000 in
set_option maxRecDepth 10000 in
theorem TopFar_ok (A0 : Option Addr) (q0 : Nat) (l : List Cg) (A1 : Option Addr) (q1 : Nat) (mk : List Bool) (A2 : Option Addr) (q2 : Nat) (ord : List Int) (arm : Int) (A4 : Option Addr) (q4 : Nat) (keep : List Int) (w0 : World)
 (h0 : RdL w0 cgE A0 q0 l) (hk0 : ∀ c ∈ l, c.key.length ≤ maxLen) (hm0 : q0 ≤ maxLen) (h1 : RdL w0 boolE A1 q1 mk) (hm1 : q1 ≤ maxLen) (h2 : RdL w0 intE A2 q2 ord) (hm2 : q2 ≤ maxLen) (harm : arm ≤ 9223372036854775807) (h4 : RdL w0 intE A4 q4 keep) :
 Fn Tryz.prog 3 [.slice A0 l.length q0, .slice A1 mk.length q1, .slice A2 ord.length q2, .int .i64 arm, .slice A4 keep.length q4] w0 fun v w' => v = .bool true ∧ Mem w0 w' [] := by
 have M := Mem.refl w0
 obtain ⟨w, hw⟩ : ∃ w, w = w0 := ⟨w0, rfl⟩
 refine Fn.enter Tryz.func3 rfl Tryz.ntmps3 rfl (W.sub [(0, _), (1, _), (2, _), (3, _), (4, _)] (.cons rfl (.cons rfl (.cons rfl (.cons rfl (.cons rfl .nil))))) (W.seq (W.region (WL.assign rfl rfl (WL.nil (WX.next (W.sub [(0, _), (1, _), (2, _), (3, _), (4, _)] (.cons rfl (.cons rfl (.cons rfl (.cons rfl (.cons rfl .nil))))) (W.seq (W.region (WL.move rfl rfl (WL.move rfl rfl (WL.call Tryz.call4 rfl (sown_ok A0 q0 l A1 q1 mk _ (h0.mem M) (h1.mem M) hk0 hm0 hm1) rfl ?_))))))))))))
 rintro _ w ⟨its, Ai, ci, rfl, hits, m⟩
 replace M := M.call1 m; clear m
 refine WL.move rfl rfl (WL.extractL rfl rfl rfl (WL.extractL rfl rfl rfl (WL.assign rfl rfl (WL.assign rfl rfl (WL.nil (WX.next (W.sub [(2, _), (3, _), (4, _), (11, _), (12, _)] (.cons rfl (.cons rfl (.cons rfl (.cons rfl (.cons rfl .nil))))) (W.seq (W.region (WL.call Tryz.call5 rfl (diskNew_ok 60 (by omega) (by omega) _) rfl ?_))))))))))
 rintro _ w ⟨k, rfl, hkd, m⟩
 replace M := M.call1 m; clear m
 refine WL.move rfl rfl (WL.extractL rfl rfl rfl (WL.extractL rfl rfl rfl (WL.assign rfl rfl (WL.assign rfl rfl (WL.nil (WX.next (W.sub [(2, _), (3, _), (4, _), (11, _), (12, _), (13, _)] (.cons rfl (.cons rfl (.cons rfl (.cons rfl (.cons rfl (.cons rfl .nil)))))) (W.seq (W.region (WL.call Tryz.call6 rfl (refNew_ok 60 (by omega) (by omega) _) rfl ?_))))))))))
 rintro _ w ⟨r, rfl, hrd, m⟩
 replace M := M.call1 m; clear m
 refine WL.move rfl rfl (WL.extractL rfl rfl rfl (WL.extractL rfl rfl rfl (WL.assign rfl rfl (WL.assign rfl rfl (WL.nil (WX.next (W.sub [(2, _), (3, _), (4, _), (11, _), (12, _), (13, _), (15, _)] (.cons rfl (.cons rfl (.cons rfl (.cons rfl (.cons rfl (.cons rfl (.cons rfl .nil))))))) (W.seq (W.seq (W.region (WL.move rfl rfl (WL.not rfl rfl (WL.moveIfB rfl rfl (fun c0 => ?_) (fun c0 => ?_))))))))))))))
 ·exact absurd c0 (by simp)
 ·refine WL.on rfl rfl (WL.move rfl rfl (WL.on rfl rfl (WL.eqNilF Tryz.underlying28 rfl rfl rfl (WL.pickF rfl rfl rfl (WL.move rfl rfl (WL.on rfl rfl (WL.move rfl rfl (WL.on rfl rfl (WL.eqNilF Tryz.underlying32 rfl rfl rfl (WL.pickF rfl rfl rfl (WL.move rfl rfl (WL.on rfl rfl (WL.move rfl rfl (WL.on rfl rfl (WL.len Tryz.underlying24 rfl rfl (WL.on rfl rfl (WL.gtr rfl rfl rfl (WL.pickF rfl rfl rfl (WL.nil (WX.next (W.sub [(2, _), (3, _), (4, _), (11, _), (12, _), (13, _), (15, _), (54, _)] (.cons rfl (.cons rfl (.cons rfl (.cons rfl (.cons rfl (.cons rfl (.cons rfl (.cons rfl .nil)))))))) (W.ite rfl (fun c3 => ?_) (fun c3 => ?_)))))))))))))))))))))))
  ·refine W.seq (W.region (WL.move rfl rfl (WL.moveIfB rfl rfl (fun c4 => ?_) (fun c4 => ?_))))
   ·refine WL.on rfl rfl (WL.move rfl rfl (WL.on rfl rfl (WL.neNilT Tryz.underlying28 rfl rfl rfl (WL.pickT rfl rfl rfl (WL.move rfl rfl (WL.on rfl rfl (WL.move rfl rfl (WL.on rfl rfl (WL.neNilT Tryz.underlying32 rfl rfl rfl (WL.pickT rfl rfl rfl (WL.assign rfl rfl (WL.nil (WX.next (W.sub [(10, _)] (.cons rfl .nil) (W.ret (WX.thenRet (WX.ret1 rfl rfl ?_)))))))))))))))))
    exact ⟨rfl, M.sel Sel.a⟩
   ·exact absurd c4 (by simp)
  ·have hkl : keep.length ≤ 1000 := by omega
   refine W.skip (WX.next (W.seq (W.region (WL.move rfl rfl ?_))))
   refine WL.call Tryz.call7 rfl (stOpen2_ok w0 w _ _ k (by rw [hkd]; exact start_ok) (by rw [hkd]; exact start_up) (by rw [hkd]; exact (by decide : 6 ≤ (Dk.start 60).safe.length)) (by rw [hkd]; exact Nat.zero_le _) M Del.a) rfl ?_
   rintro _ w ⟨k2, pa, ea, X, rfl, e1, e2, e3, e4, e5, hoA, M⟩
   obtain ⟨a, rfl, rfl, a3, a4, a5, a6, rfl⟩ := hoA.start hkd
   replace M := M.unstar1
   refine WL.move rfl rfl (WL.extractL rfl rfl rfl (WL.extractL rfl rfl rfl (WL.assign rfl rfl (WL.assign rfl rfl (WL.nil (WX.next (W.sub [(2, _), (3, _), (4, _), (11, _), (13, _), (15, _), (17, _), (18, _)] (.cons rfl (.cons rfl (.cons rfl (.cons rfl (.cons rfl (.cons rfl (.cons rfl (.cons rfl .nil)))))))) (W.seq (W.region (WL.move rfl rfl ?_))))))))))
   refine WL.call Tryz.call8 rfl (rsOpen2_ok w0 w _ _ r (by rw [hrd]; exact start_ok) (by rw [hrd]; exact start_up) (by rw [hrd]; exact (by decide : 6 ≤ (Dk.start 60).safe.length)) (by rw [hrd]; exact (by decide : (Dk.start 60).safe.length ≤ 1000)) (by rw [hrd]; exact Nat.zero_le _) M Del.a) rfl ?_
   rintro _ w ⟨r2, pb, eb, X, rfl, f1, f2, f3, f4, f5, hoB, M⟩
   obtain ⟨b, rfl, rfl, b3, b5, b6, rfl⟩ := hoB.start hrd
   replace M := M.unstar1
   have hl60 : k2.d.safe.length = 60 := by rw [e4, hkd]; exact List.length_replicate
   have hw5 : k2.d.waits.length ≤ 1100 := by rw [hkd] at e5; exact e5
   have hdd : r2.d = k2.d := by rw [f2, e2, hrd, hkd]
   refine WL.move rfl rfl (WL.extractL rfl rfl rfl (WL.extractL rfl rfl rfl (WL.assign rfl rfl (WL.assign rfl rfl (WL.nil (WX.next (W.sub [(2, _), (3, _), (4, _), (11, _), (13, _), (15, _), (17, _), (18, _), (19, _), (20, _)] (.cons rfl (.cons rfl (.cons rfl (.cons rfl (.cons rfl (.cons rfl (.cons rfl (.cons rfl (.cons rfl (.cons rfl .nil)))))))))) (W.seq (W.region (WL.call Tryz.call9 rfl (newSink_ok its _) rfl ?_))))))))))
   rintro _ w ⟨x, rfl, hx0, hx, m⟩
   replace M := M.call1 m; clear m
   refine WL.move rfl rfl (WL.move rfl rfl (WL.buildP (places := #[(0, 1), (1, 1), (2, 1)]) Tryz.underlying45 Tryz.zeroValue45 (fun _ => by simp [Tryz.sizeOf42, Tryz.sizeOf35, Tryz.sizeOf38]) rfl (by repeat (first | exact Puts.nil | exact SetAt.zero | apply SetAt.succ | apply Puts.cons rfl rfl)) rfl ?_))
   refine WL.box rfl M rfl ?_
   intro g8_4 w M
   try simp only [Value.cells] at M
   try simp only [List.toList_toArray] at M
   refine WL.assign rfl rfl (WL.nil (WX.next (W.sub [(2, _), (3, _), (4, _), (11, _), (13, _), (15, _), (17, _), (18, _), (19, _), (20, _), (21, _)] (.cons rfl (.cons rfl (.cons rfl (.cons rfl (.cons rfl (.cons rfl (.cons rfl (.cons rfl (.cons rfl (.cons rfl (.cons rfl .nil))))))))))) (W.seq (W.seq (W.region (WL.move rfl rfl (WL.neI rfl rfl rfl (WL.moveIf rfl rfl (fun c6 => ?_) (fun c6 => ?_))))))))))
   ·exact absurd rfl c6
   ·refine WL.on rfl rfl (WL.move rfl rfl (WL.on rfl rfl (WL.neI rfl rfl rfl (WL.pickF rfl rfl rfl (WL.moveIf rfl rfl (fun c7 => ?_) (fun c7 => ?_))))))
    ·exact absurd rfl c7
    ·refine WL.on rfl rfl (WL.move rfl rfl (WL.on rfl rfl (WL.eqNilF Tryz.underlying35 rfl rfl rfl (WL.pickF rfl rfl rfl (WL.move rfl rfl (WL.on rfl rfl (WL.move rfl rfl (WL.on rfl rfl (WL.eqNilF Tryz.underlying38 rfl rfl rfl (WL.pickF rfl rfl rfl (WL.move rfl rfl (WL.on rfl rfl (WL.move rfl rfl (WL.on rfl rfl (WL.nilCheck rfl rfl (WL.on rfl rfl (WL.fieldR (off := 0) Tryz.underlying45 rfl rfl Tryz.sizeOf42 rfl rfl rfl ?_)))))))))))))))))
     refine WL.on rfl rfl (WL.loadR Tryz.isAgg42 rfl M Has.a rfl rfl (WL.on rfl rfl (WL.eqNilF Tryz.underlying42 rfl rfl rfl (WL.pickF rfl rfl rfl (WL.nil (WX.next (W.sub [(2, _), (3, _), (4, _), (11, _), (13, _), (15, _), (21, _), (99, _)] (.cons rfl (.cons rfl (.cons rfl (.cons rfl (.cons rfl (.cons rfl (.cons rfl (.cons rfl .nil)))))))) (W.condF rfl (W.skip (WX.next (W.joint (fun (y : DkX × RdX) => [(2, .slice A2 ord.length q2), (4, .slice A4 keep.length q4), (11, .slice Ai its.length ci), (13, .pointer (some ⟨k.g, 0, none⟩)), (15, .pointer (some ⟨r.g, 0, none⟩)), (21, .pointer (some ⟨g8_4, 0, none⟩))]) (fun zj w => Mem w0 w ((fun y => x.O :: a.O :: b.O :: y.1.O :: y.2.O :: siteRow g8_4 x.g a.g b.g :: Asr.lst itE Ai ci its :: []) zj) ∧ (fun y => y.1.g = k.g ∧ y.2.g = r.g ∧ y.2.d = y.1.d ∧ y.1.d.ok ∧ y.1.d.safe.length = 60 ∧ y.1.d.waits.length ≤ 50000) zj) ?_ ?_)))))))))))
     ·refine W.seq (W.region (WL.move rfl rfl (WL.geq rfl rfl rfl (WL.nil (WX.next (W.sub [(2, _), (3, _), (4, _), (11, _), (13, _), (15, _), (21, _), (101, _)] (.cons rfl (.cons rfl (.cons rfl (.cons rfl (.cons rfl (.cons rfl (.cons rfl (.cons rfl .nil)))))))) (W.ite rfl (fun c11 => ?_) (fun c11 => ?_))))))))
      ·obtain ⟨n, rfl⟩ : ∃ n : Nat, arm = (n : Int) := ⟨arm.toNat, by omega⟩
       have hn60 : n % 60 < 60 := Nat.mod_lt _ (by omega)
       refine W.seq (W.region (WL.move rfl rfl (WL.move rfl rfl (WL.rem rfl rfl (by omega) (tmod60 n) rfl ?_))))
       refine WL.call Tryz.call10 rfl (Fn.ptr e1.symm (diskArm_ok k2 w0 w _ _ (n % 60) (by omega) M Del.a)) rfl ?_
       rintro _ w M
       refine WL.nil (WX.next (W.sub [(2, _), (3, _), (4, _), (11, _), (13, _), (15, _), (21, _)] (.cons rfl (.cons rfl (.cons rfl (.cons rfl (.cons rfl (.cons rfl (.cons rfl .nil))))))) (W.region (WL.move rfl rfl (WL.move rfl rfl (WL.rem rfl rfl (by omega) (tmod60 n) rfl ?_))))))
       refine WL.call Tryz.call11 rfl (Fn.ptr f1.symm (refArm_ok r2 w0 w _ _ (n % 60) (by omega) M Del.a)) rfl ?_
       rintro _ w M
       refine WL.nil ?_
       refine WX.join (({ k2 with d := { k2.d with armed := true, left := n % 60 } }, { r2 with d := { r2.d with armed := true, left := n % 60 } })) envSub.sf ⟨M.sel Sel.a, ⟨e1, f1, by dsimp only; rw [hdd], ⟨e3.pos, e3.len, e3.at_, by dsimp only; omega, e3.few⟩, hl60, by dsimp only; omega⟩⟩
      ·refine W.skip ?_
       refine WX.join ((k2, r2)) envSub.sf ⟨M.sel Sel.a, ⟨e1, f1, hdd, e3, hl60, by dsimp only; omega⟩⟩
     clear M; rintro (⟨k2, r2⟩) w ⟨M, ⟨e1, f1, hdd, e3, hl60, hw5⟩⟩; dsimp only at M e1 f1 hdd e3 hl60 hw5 ⊢
     refine W.sub [(2, _), (4, _), (11, _), (13, _), (15, _), (21, _)] (.cons rfl (.cons rfl (.cons rfl (.cons rfl (.cons rfl (.cons rfl .nil)))))) (W.seq (W.region (WL.move rfl rfl (WL.move rfl rfl (WL.move rfl rfl ?_)))))
     refine WL.call Tryz.call12 rfl (takes_ok w0 w _ hits h2 hm2 g8_4 ⟨x, a, b, k2, r2⟩ ⟨hx, a6, b6, a3.trans e1.symm, a4, b3.trans f1.symm, b5.trans a5.symm, e3, hl60, hw5, hdd, by dsimp only; rw [a5]; exact far_start⟩ (M.sel (K := x.O :: a.O :: b.O :: k2.O :: r2.O :: siteRow g8_4 x.g a.g b.g :: Asr.lst itE Ai ci its :: []) Sel.a)) rfl ?_
     rintro _ w ⟨sure, k3, r3, rfl, g1, g2, g3, g4, g5, M⟩
     dsimp only at g1 g2
     refine WL.move rfl rfl (WL.extractL rfl rfl rfl (WL.extractL rfl rfl rfl (WL.assign rfl rfl (WL.assign rfl rfl (WL.nil (WX.next (W.sub [(4, _), (11, _), (13, _), (15, _), (22, _), (23, _)] (.cons rfl (.cons rfl (.cons rfl (.cons rfl (.cons rfl (.cons rfl .nil)))))) (W.seq (W.seq (W.region (WL.move rfl rfl (WL.not rfl rfl (WL.nil (WX.next (W.sub [(4, _), (11, _), (13, _), (15, _), (22, _), (118, _)] (.cons rfl (.cons rfl (.cons rfl (.cons rfl (.cons rfl (.cons rfl .nil)))))) (W.cond rfl (fun c12 => ?_) (fun c12 => ?_)))))))))))))))))
     ·(try simp only [Bool.not_eq_true'] at c12); (try simp only [Bool.not_eq_false'] at c12); (try simp only [decide_eq_true_eq] at c12); (try simp only [decide_eq_false_iff_not] at c12)
      exact absurd c12 (by simp)
     ·(try simp only [Bool.not_eq_true'] at c12); (try simp only [Bool.not_eq_false'] at c12); (try simp only [decide_eq_true_eq] at c12); (try simp only [decide_eq_false_iff_not] at c12)
      refine W.skip (WX.next (W.seq (W.region (WL.move rfl rfl (WL.move rfl rfl (WL.call Tryz.call13 rfl (Fn.ptr (e1.symm.trans g1.symm) (diskCrash_ok k3 g4 (by omega) w0 w _ _ h4 M Del.a)) rfl ?_))))))
      rintro _ w ⟨k4, i1, i2, M⟩
      refine WL.nil (WX.next (W.sub [(4, _), (11, _), (13, _), (15, _), (22, _)] (.cons rfl (.cons rfl (.cons rfl (.cons rfl (.cons rfl .nil))))) (W.seq (W.region (WL.move rfl rfl (WL.move rfl rfl ?_))))))
      refine WL.call Tryz.call14 rfl (Fn.ptr (f1.symm.trans g2.symm) (refCrash_ok r3 (by rw [g3]; exact g4) (by omega) w0 w _ _ h4 M Del.a)) rfl ?_
      rintro _ w ⟨r4, j1, j2, M⟩
      have hc4 : r4.d = k4.d := by rw [j2, i2, g3]
      have ok4 : k4.d.ok := by rw [i2]; exact crash_ok g4 keep
      have up4 : k4.d.up := by rw [i2]; exact crash_up _ _
      have hl4 : k4.d.safe.length = 60 := by rw [i2]; exact (crashN_length ..).trans g5
      have hw4 : k4.d.waits.length = 0 := by rw [i2]; rfl
      have hgk : k.g = k4.g := (e1.symm.trans g1.symm).trans i1.symm
      have hgr : r.g = r4.g := (f1.symm.trans g2.symm).trans j1.symm
      refine WL.nil (WX.next (W.sub [(11, _), (13, _), (15, _), (22, _)] (.cons rfl (.cons rfl (.cons rfl (.cons rfl .nil)))) (W.seq (W.region (WL.move rfl rfl (WL.call Tryz.call7 rfl (Fn.ptr hgk (stOpen2_ok w0 w _ _ k4 ok4 up4 (by omega) (by omega) M Del.a)) rfl ?_))))))
      rintro _ w ⟨k5, pa, ea, Xa, rfl, u1, u2, u3, u4, u5, hoA2, M⟩
      refine WL.move rfl rfl (WL.extractL rfl rfl rfl (WL.extractL rfl rfl rfl (WL.assign rfl rfl (WL.assign rfl rfl (WL.nil (WX.next (W.sub [(11, _), (15, _), (18, _), (22, _), (24, _)] (.cons rfl (.cons rfl (.cons rfl (.cons rfl (.cons rfl .nil))))) (W.seq (W.region (WL.move rfl rfl ?_))))))))))
      refine WL.call Tryz.call8 rfl (Fn.ptr hgr (rsOpen2_ok w0 w _ _ r4 (by rw [hc4]; exact ok4) (by rw [hc4]; exact up4) (by rw [hc4]; omega) (by rw [hc4]; omega) (by rw [hc4]; omega) M Del.a)) rfl ?_
      rintro _ w ⟨r5, pb, eb, Xb, rfl, t1, t2, t3, t4, t5, hoB2, M⟩
      refine WL.move rfl rfl (WL.extractL rfl rfl rfl (WL.extractL rfl rfl rfl (WL.assign rfl rfl (WL.assign rfl rfl (WL.nil (WX.next (W.sub [(11, _), (18, _), (20, _), (22, _), (24, _), (25, _)] (.cons rfl (.cons rfl (.cons rfl (.cons rfl (.cons rfl (.cons rfl .nil)))))) (W.seq (W.seq (W.region (WL.move rfl rfl (WL.neI rfl rfl rfl (WL.moveIf rfl rfl (fun c13 => ?_) (fun c13 => ?_))))))))))))))
      ·refine WL.off rfl rfl rfl rfl (WL.off rfl rfl rfl rfl (WL.pickT rfl rfl rfl (WL.move rfl rfl (WL.off rfl rfl rfl rfl (WL.off rfl rfl rfl rfl (WL.off rfl rfl rfl rfl (WL.off rfl rfl rfl rfl (WL.off rfl rfl rfl rfl (WL.off rfl rfl rfl rfl (WL.off rfl rfl rfl rfl (WL.off rfl rfl rfl rfl (WL.pickT rfl rfl rfl (WL.nil (WX.next (W.sub [(11, _), (18, _), (22, _), (24, _), (150, _)] (.cons rfl (.cons rfl (.cons rfl (.cons rfl (.cons rfl .nil))))) (W.condT rfl (W.seq (W.region (WL.assign rfl rfl (WL.nil (WX.next (W.sub [(10, _)] (.cons rfl .nil) (W.ret (WX.thenRet (WX.ret1 rfl rfl ?_)))))))))))))))))))))))))
       exact ⟨rfl, M.sel Sel.a⟩
      ·obtain ⟨xb, v1, rfl, v2, v3, v4, v5, v6, rfl⟩ := hoB2.resolve_left (fun h => by have := h.2.2; omega)
       have hshort := loadL_short (acc := []) List.Pairwise.nil (fun p hp => by cases hp) v1
       have hlen := loadL_len (acc := []) List.Pairwise.nil v1
       have hrec : (openW r4.d).2.1.l.length ≤ 1000 := by
        have s1 := framesB_few xb.wx.s.l v6.w.s.short
        have s2 := v6.w.s.fits
        have s3 := v6.w.s.hi
        unfold usedW at s2
        rw [v4] at s1 s2
        have s4 : halfD r4.d = 29 := half60 (by rw [hc4]; exact hl4)
        omega
       rw [List.length_nil] at hlen
       rw [hc4] at v1
       obtain ⟨gb, wxb, Al, cl, lb, deadb⟩ := xb
       dsimp only at v1 hshort hlen M ⊢
       have M5 : Mem w0 w (sbRow gb wxb.g Al lb.length cl deadb :: Asr.lst pairE Al cl lb :: wxb.O :: r5.O :: Asr.star Xa :: k5.O :: Asr.lst itE Ai ci its :: []) := M.unstar1.unstar3
       replace M := M5
       refine WL.on rfl rfl (WL.move rfl rfl (WL.on rfl rfl (WL.eqNilF Tryz.underlying38 rfl rfl rfl (WL.pickF rfl rfl rfl (WL.move rfl rfl (WL.on rfl rfl (WL.move rfl rfl (WL.on rfl rfl (WL.nilCheck rfl rfl (WL.on rfl rfl (WL.fieldR (off := 1) Tryz.underlying55 rfl rfl Tryz.sizeOf53 rfl rfl rfl ?_)))))))))))
       refine WL.on rfl rfl (WL.loadR Tryz.isAgg53 rfl M Has.a rfl rfl (WL.on rfl rfl (WL.move rfl rfl (WL.on rfl rfl (WL.move rfl rfl (WL.on rfl rfl (WL.call Tryz.call15 rfl (isCut_ok w0 w _ (l := lb) hits (fun p hp => Nat.le_trans (hshort.2 p hp) (by omega)) (by omega) (M.sel (K := Asr.lst pairE Al cl lb :: Asr.lst itE Ai ci its :: Asr.star Xa :: k5.O :: []) Sel.a)) rfl ?_)))))))
       rintro _ w ⟨rfl, M⟩
       refine WL.on rfl rfl (WL.not rfl rfl (WL.pickF rfl rfl rfl (WL.nil (WX.next (W.sub [(11, _), (18, _), (22, _), (24, _), (150, _)] (.cons rfl (.cons rfl (.cons rfl (.cons rfl (.cons rfl .nil))))) (W.cond rfl (fun c15 => ?_) (fun c15 => ?_)))))))
       ·(try simp only [Bool.not_eq_true'] at c15); (try simp only [Bool.not_eq_false'] at c15); (try simp only [decide_eq_true_eq] at c15); (try simp only [decide_eq_false_iff_not] at c15)
        refine W.seq (W.region (WL.assign rfl rfl (WL.nil (WX.next (W.sub [(10, _)] (.cons rfl .nil) (W.ret (WX.thenRet (WX.ret1 rfl rfl ?_))))))))
        exact ⟨rfl, M.sel Sel.a⟩
       ·(try simp only [Bool.not_eq_true'] at c15); (try simp only [Bool.not_eq_false'] at c15); (try simp only [decide_eq_true_eq] at c15); (try simp only [decide_eq_false_iff_not] at c15)
        have hcut : isCutF lb its sure = true := by simpa using c15
        obtain ⟨xa, y1, rfl, rfl, y3, y4, y5, y6, y7, rfl⟩ := hoA2.resolve_left (fun h => by rw [v1] at h; cases h.1)
        have hla : xa.l = lb := by rw [v1] at y1; exact (Option.some.inj y1).symm
        have M6 : Mem w0 w (xa.O :: Asr.lst itE Ai ci its :: []) := (M.sel (K := Asr.star [xa.O] :: Asr.lst itE Ai ci its :: []) Sel.a).unstar1
        replace M := M6
        refine W.skip (WX.next (W.seq (W.region (WL.move rfl rfl (WL.eqI rfl rfl rfl (WL.moveIf rfl rfl (fun c16 => ?_) (fun c16 => ?_)))))))
        ·refine WL.on rfl rfl (WL.move rfl rfl (WL.on rfl rfl (WL.neNilT Tryz.underlying35 rfl rfl rfl (WL.pickT rfl rfl rfl (WL.move rfl rfl (WL.on rfl rfl (WL.move rfl rfl (WL.on rfl rfl ?_))))))))
         refine WL.call Tryz.call16 rfl (topAll_ok w0 w _ _ xa y7 y6 (by rw [hla]; exact isCutF_few hits hcut) M Del.a) rfl ?_
         rintro _ w ⟨Ac, cc, rfl, M⟩
         rw [hla] at M ⊢
         refine WL.on rfl rfl (WL.move rfl rfl (WL.on rfl rfl (WL.move rfl rfl (WL.on rfl rfl (WL.call Tryz.call15 rfl (isCut_ok w0 w _ (l := lb) hits (fun p hp => Nat.le_trans (hshort.2 p hp) (by omega)) (by omega) (M.sel (K := Asr.lst pairE Ac cc lb :: Asr.lst itE Ai ci its :: []) Sel.a)) rfl ?_)))))
         rintro _ w ⟨rfl, M⟩
         refine WL.pickT rfl rfl rfl (WL.assign rfl rfl (WL.nil (WX.next (W.sub [(10, _)] (.cons rfl .nil) (W.ret (WX.ret1 rfl rfl ?_))))))
         exact ⟨by rw [hcut], M.sel Sel.a⟩
        ·exact absurd rfl c16
end Go.Proofs.YtlminileigfkcaaGreat
namespace Go.Proofs.YtlminileigfkcaaGreat
open Go Go.RowKit Go.ChangeShapes Go.WideShapes Go.ChangeAt
end Go.Proofs.YtlminileigfkcaaGreat
namespace Go.Proofs.YtlminileigfkcaaGreat
open Go Go.RowKit Go.ChangeShapes Go.WideShapes Go.ChangeAt
section
variable {H : Type} {enc : TypeId × Value → H} {P : Program} {W : World} {base fuel : Nat} {sp : Nat → Bool} {held : Bool} {t e : TypeId} {cs : List Value} {x : DataW H × List MemPlace}
/-- The parts of a struct. -/
theorem in_struct {fs : Array Field} (ht : P.underlying t = some (.struct fs)) (h : DataW.trod enc P W base sp held fuel t cs = some x) :
 cs.length = P.cellsOf t ∧ ∃ m, ∀ (i : Nat) (f : Field), fs[i]? = some f → ∃ y, DataW.trod enc P W base sp held m f.type ((cs.drop f.offset).take (P.cellsOf f.type)) = some y := by
 obtain ⟨xs, m, rfl, rfl, hl, hlen, hf⟩ := DataW.trod_struct ht h
 refine ⟨hl, m, fun i f hi => ?_⟩
 have hlt : i < xs.length := by rw [hlen]; exact (Array.getElem?_eq_some_iff.1 hi).1
 exact ⟨xs[i], by rw [hf i f hi, List.getElem?_eq_getElem hlt]⟩
theorem in_fields {fs : List Field} (ht : P.underlying t = some (.struct fs.toArray)) (h : DataW.trod enc P W base sp held fuel t cs = some x) :
 cs.length = P.cellsOf t ∧ ∃ m, ∀ (i : Nat) (f : Field), fs[i]? = some f → ∃ y, DataW.trod enc P W base sp held m f.type ((cs.drop f.offset).take (P.cellsOf f.type)) = some y := by
 obtain ⟨h1, m, h2⟩ := in_struct ht h
 exact ⟨h1, m, fun i f hi => h2 i f (by simpa using hi)⟩
theorem in_i64 (ht : P.underlying t = some (.int .i64)) (h : DataW.trod enc P W base sp held fuel t cs = some x) : ∃ n : Int, cs = [.int .i64 n] ∧ -9223372036854775808 ≤ n ∧ n ≤ 9223372036854775807 := by
 obtain ⟨n, rfl, _, hw⟩ := DataW.trod_int ht h
 have hb := bounds_i64 hw
 exact ⟨n, rfl, hb.1, hb.2⟩
theorem in_bool (ht : P.underlying t = some .bool) (h : DataW.trod enc P W base sp held fuel t cs = some x) : ∃ b : Bool, cs = [.bool b] := by
 obtain ⟨b, rfl, _⟩ := DataW.trod_bool ht h
 exact ⟨b, rfl⟩
theorem in_string (ht : P.underlying t = some .string) (h : DataW.trod enc P W base sp held fuel t cs = some x) : ∃ l : List UInt8, cs = [str l] ∧ l.length ≤ maxLen := by
 obtain ⟨s, rfl, _, hs⟩ := DataW.trod_string ht h
 exact ⟨s.data.toList, by simp [str], by
  have h1 : s.data.toList.length = s.size := Array.length_toList
  rw [h1]
  exact hs⟩
/-- A list of things. -/
theorem in_list {α : Type} {E : Enc α} {Q : α → Prop} (ht : P.underlying t = some (.slice e)) (hc : P.cellsOf e = E.size)
 (hdec : ∀ (m : Nat) (cs : List Value) (x : DataW H × List MemPlace), DataW.trod enc P W base sp held m e cs = some x → ∃ a, cs = E.cells a ∧ Q a)
 (h : DataW.trod enc P W base sp held fuel t cs = some x) : ∃ A l cap, cs = [.slice A (List.length l) cap] ∧ RdL W E A cap l ∧ (∀ a ∈ l, Q a) ∧ cap ≤ maxLen := by
 rcases Deep.open_slice ht h with ⟨rfl, _⟩ | ⟨a, len, cap, m, n, D, Pl, rfl, hb, hl, hm, hmm, rfl, hx⟩
 ·exact ⟨none, [], 0, rfl, RdL.nil _ _ _, (fun _ h => by cases h), Nat.zero_le _⟩
 ·rw [hc] at hx
  have hlm : len ≤ m := by rw [hmm]; split <;> omega
  have hxs : ∀ i, i < len → ∃ a', W.cells? base (a.add (i * E.size)) E.size = some (E.cells a') ∧ Q a' := fun i hi => by
   obtain ⟨cs', h1, h2⟩ := hx i (by omega)
   obtain ⟨a', rfl, hq⟩ := hdec _ _ _ h2
   exact ⟨a', h1, hq⟩
  have hne : 0 < len → Nonempty α := fun h0 => by obtain ⟨a', _⟩ := hxs 0 h0; exact ⟨a'⟩
  obtain ⟨l, hll, hlx⟩ : ∃ l : List α, l.length = len ∧ ∀ i a', l[i]? = some a' → W.cells? base (a.add (i * E.size)) E.size = some (E.cells a') ∧ Q a' := by
   have key : ∀ k, k ≤ len → ∃ l : List α, l.length = k ∧ ∀ i a', l[i]? = some a' → W.cells? base (a.add (i * E.size)) E.size = some (E.cells a') ∧ Q a' := by
    intro k
    induction k with
    | zero => intro _; exact ⟨[], rfl, fun i a' h => by simp at h⟩
    | succ k ih =>
      intro hk
      obtain ⟨l, h1, h2⟩ := ih (by omega)
      obtain ⟨a', h3⟩ := hxs k (by omega)
      refine ⟨l ++ [a'], by simp [h1], fun i b hb => ?_⟩
      rw [List.getElem?_append] at hb
      split at hb
      ·exact h2 i b hb
      ·have hi : i - l.length = 0 := by
        have := (List.getElem?_eq_some_iff.1 hb).1
        simp at this
        omega
       rw [hi] at hb
       obtain rfl : a' = b := by simpa using hb
       obtain rfl : i = k := by omega
       exact h3
   exact key len (Nat.le_refl _)
  refine ⟨some a, l, cap, by rw [hll], ⟨E.all_length l, by rw [hll]; exact hl, fun h0 => ?_⟩, fun b hb => ?_, hm⟩
  ·have hc0 := World.cells?_some (hlx 0 l[0] (List.getElem?_eq_getElem h0)).1
   have hbl : a.block < W.heap.size := by
    have h1 := hc0.2.2 0 E.pos
    rw [List.getElem?_eq_getElem (by rw [E.len]; exact E.pos)] at h1
    have := World.block_lt_of_cell? W _ h1
    rw [add_block, add_block] at this
    exact this
   refine ⟨a, rfl, hbl, fun j v hv => ?_⟩
   have hj := (List.getElem?_eq_some_iff.1 hv).1
   rw [E.all_length] at hj
   have hpos := E.pos
   have hk : j / E.size < l.length := by
    rw [Nat.div_lt_iff_lt_mul hpos]
    exact hj
   have hjo : j = j / E.size * E.size + j % E.size := by rw [Nat.mul_comm]; exact (Nat.div_add_mod j E.size).symm
   have ho : j % E.size < E.size := Nat.mod_lt _ hpos
   have h2 := World.cells?_some (hlx (j / E.size) l[j / E.size] (List.getElem?_eq_getElem hk)).1
   have h3 := h2.2.2 (j % E.size) ho
   rw [add_add, ← hjo] at h3
   rw [h3, ← hv]
   haveI : Inhabited α := ⟨l[j / E.size]⟩
   conv => rhs; rw [hjo]
   rw [E.all_get l _ _ hk ho]
   congr 2
   simp [el, hk]
  ·obtain ⟨i, hi⟩ := List.mem_iff_getElem?.1 hb
   exact (hlx i b hi).2
end
section
variable {H : Type} {enc : TypeId × Value → H} {P : Program} {W : World} {base fuel : Nat} {sp : Nat → Bool} {held : Bool} {t e : TypeId} {cs : List Value} {x : DataW H × List MemPlace}
/-- An argument that is one cell. -/
theorem arg_one {v : Value} {d : DataW H} {ps : List MemPlace} (hv : v.oneCell' = true) (h : DataW.Trod enc P W base sp held t v d ps) : ∃ fuel x, DataW.trod enc P W base sp held fuel t [v] = some x := by
 obtain ⟨fuel, h⟩ := h
 have : v.cells.toList = [v] := by cases v <;> first | rfl | simp [Value.oneCell'] at hv
 rw [this] at h
 exact ⟨fuel, _, h⟩
theorem arg_slice {v : Value} {d : DataW H} {ps : List MemPlace} (ht : P.underlying t = some (.slice e)) (hv : Value.okWide P W .any base t v) (h : DataW.Trod enc P W 0 sp held t v d ps) :
 ∃ fuel x, v.oneCell' = true ∧ DataW.trod enc P W 0 sp held fuel t [v] = some x := by
 obtain ⟨a, len, cap, rfl⟩ := okWide_slice ht hv
 obtain ⟨fuel, x, h⟩ := arg_one (v := .slice a len cap) rfl h
 exact ⟨fuel, x, rfl, h⟩
end
end Go.Proofs.YtlminileigfkcaaGreat
