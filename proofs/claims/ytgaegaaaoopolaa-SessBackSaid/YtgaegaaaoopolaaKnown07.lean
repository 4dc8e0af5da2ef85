/-
  Walk: seawalllaw07.known: what the chapter's examples fix.
-/
import Derived.Test.YtgaegaaaoopolaaSess2
import Derived.Test.YtgaegaaaoopolaaSess4
namespace Go.Proofs.Ytgaegaaaoopolaa
open Go Go.RowKit

def Sn.okB (s : Sn) : Bool := decide (s.life < 18446744073709551616) && decide (1 ≤ s.window ∧ s.window ≤ 64) && decide (1 ≤ s.span ∧ s.span ≤ 1000) && decide (s.acked + s.l.length < 1000000000) && decide (s.now < 1000000000) && decide (s.l.length ≤ 128) && s.l.all fun p => decide (p.1.length ≤ 1000) && decide (p.2 ≤ s.now)
theorem Sn.ok_of {s : Sn} (h : s.okB = true) : s.ok := by
  unfold Sn.okB at h
  simp only [Bool.and_eq_true, decide_eq_true_eq, List.all_eq_true] at h
  obtain ⟨⟨⟨⟨⟨⟨h1, h2⟩, h3⟩, h4⟩, h5⟩, h6⟩, h7⟩ := h
  exact ⟨h1, h2, h3, h4, h5, h6, fun p hp => (h7 p hp).1, fun p hp => (h7 p hp).2⟩
def Rc.okB (r : Rc) : Bool := decide (1 ≤ r.window ∧ r.window ≤ 64) && decide (r.life < 18446744073709551616) && decide (r.got + r.m.length < 1000000000) && decide ((r.m.map (·.1)).Nodup) && r.m.all fun p => decide (p.2.length ≤ 1000)
theorem Rc.ok_of {r : Rc} (h : r.okB = true) : r.ok := by
  unfold Rc.okB at h
  simp only [Bool.and_eq_true, decide_eq_true_eq, List.all_eq_true] at h
  obtain ⟨⟨⟨⟨h1, h2⟩, h3⟩, h4⟩, h5⟩ := h
  exact ⟨h1, h2, h3, h4, h5⟩

theorem Mem.segRd {l : List SX} {w0 w : World} {L : List Asr} (M : Mem w0 w L) (h : Has (Asr.star (l.map SX.O)) L) {s : SX} (hs : s ∈ l) : RdB w s.x.A s.x.cap s.x.l := ownRd (M.starHas (f := SX.O) h hs)

/-- A segment of a list of which the keys are known. -/
theorem key_at {l : List SX} {ks : List (Nat × Nat × Bool × List UInt8)} (h : l.map SX.key = ks) {k : Nat} (hk : k < ks.length) : (el l k).key = el ks k ∧ k < l.length ∧ el l k ∈ l := by
  have hl : l.length = ks.length := by rw [← h]; simp
  refine ⟨?_, by omega, el_mem (by omega)⟩
  rw [← h, el, el, List.getElem?_map, el_get (show k < l.length by omega)]
  rfl

set_option maxRecDepth 10000 in
set_option maxHeartbeats 2000000 in
theorem known7_ok (w0 : World) : Fn Try.prog 12 [] w0 fun v w' => v = .bool (decide True) ∧ Mem w0 w' [] := by
  have M := Mem.refl w0
  refine Fn.enter Try.func12 rfl Try.ntmps12 rfl ?_
  refine W.sub [] .nil ?_
  refine W.seq ?_
  refine W.region ?_
  refine WL.assign rfl rfl ?_
  refine WL.nil ?_
  refine WX.next ?_
  refine W.sub [] .nil ?_
  refine W.seq ?_
  refine W.region ?_
  refine WL.call Try.call11 rfl (NewSender_ok 1 2 3 _) rfl ?_
  rintro _ w h
  rw [if_neg (by decide)] at h
  obtain ⟨gs, rfl, m⟩ := h
  replace M := M.call1 m; clear m
  have his0 : SnX.is ⟨gs, none, 0, [], ⟨1, (2 : Int).toNat, (3 : Int).toNat, 0, 0, []⟩⟩ := rfl
  refine WL.move rfl rfl ?_
  refine WL.extractL rfl rfl rfl ?_
  refine WL.extractL rfl rfl rfl ?_
  refine WL.assign rfl rfl ?_
  refine WL.assign rfl rfl ?_
  refine WL.nil ?_
  refine WX.next ?_
  refine W.sub [(1, _), (2, _)] (.cons rfl (.cons rfl .nil)) ?_
  refine W.seq ?_
  refine W.region ?_
  refine WL.call Try.call32 rfl (NewReceiver_ok 2 _) rfl ?_
  rintro _ w h
  rw [if_neg (by decide)] at h
  obtain ⟨gr, gm, rfl, m⟩ := h
  replace M := M.call1 m; clear m
  rw [show (⟨gr, gm, [], (2 : Int).toNat, 0, 0⟩ : RcX) = RcX.of gr gm [] ⟨2, 0, 0, []⟩ from rfl] at M
  refine WL.move rfl rfl ?_
  refine WL.extractL rfl rfl rfl ?_
  refine WL.extractL rfl rfl rfl ?_
  refine WL.assign rfl rfl ?_
  refine WL.assign rfl rfl ?_
  refine WL.nil ?_
  refine WX.next ?_
  refine W.sub [(1, _), (2, _), (3, _), (4, _)] (.cons rfl (.cons rfl (.cons rfl (.cons rfl .nil)))) ?_
  refine W.seq ?_
  refine W.seq ?_
  refine W.region ?_
  refine WL.move rfl rfl ?_
  refine WL.neI rfl rfl rfl ?_
  refine WL.moveIf rfl rfl (fun c0 => ?_) (fun c0 => ?_)
  · exact absurd rfl c0
  · refine WL.on rfl rfl ?_
    refine WL.move rfl rfl ?_
    refine WL.on rfl rfl ?_
    refine WL.neI rfl rfl rfl ?_
    refine WL.pickF rfl rfl rfl ?_
    refine WL.moveIf rfl rfl (fun c1 => ?_) (fun c1 => ?_)
    · exact absurd rfl c1
    · refine WL.on rfl rfl ?_
      refine WL.move rfl rfl ?_
      refine WL.on rfl rfl ?_
      refine WL.eqNilF Try.underlying24 rfl rfl rfl ?_
      refine WL.pickF rfl rfl rfl ?_
      refine WL.move rfl rfl ?_
      refine WL.on rfl rfl ?_
      refine WL.move rfl rfl ?_
      refine WL.on rfl rfl ?_
      refine WL.eqNilF Try.underlying60 rfl rfl rfl ?_
      refine WL.pickF rfl rfl rfl ?_
      refine WL.nil ?_
      refine WX.next ?_
      refine W.sub [(1, _), (3, _), (35, _)] (.cons rfl (.cons rfl (.cons rfl .nil))) ?_
      refine W.condF rfl ?_
      refine W.skip ?_
      refine WX.next ?_
      refine W.seq ?_
      refine W.region ?_
      refine WL.move rfl rfl ?_
      refine WL.buildB (es := [_]) Try.elem5 M rfl rfl (by apply BytesOf.lit (b := 97) (by decide); exact BytesOf.nil) (by rfl) rfl rfl ?_
      intro g5_1 w M
      refine WL.convLitH (l := [97]) Try.underlying34 Try.underlying5 rfl M (by first | ((repeat (first | with_reducible exact Del.here | with_reducible apply Del.there)); done) | (repeat (first | exact Del.here | apply Del.there))) (by rfl) (by rfl) rfl ?_
      intro w M
      refine WL.call Try.call15 rfl (Push2 _ his0 (Sn.ok_of (by dsimp only; decide +kernel)) _ _ [97] _ _ _ _ M (by first | ((repeat (first | with_reducible exact Del.here | with_reducible apply Del.there)); done) | (repeat (first | exact Del.here | apply Del.there))) (by intro w M; exact (by first | first | with_reducible assumption | with_reducible exact RdB.mem (by with_reducible assumption) M | exact M.rdB (by first | ((repeat (first | with_reducible exact Has.here | with_reducible refine Has.there ?_)); done) | (repeat (first | exact Has.here | refine Has.there ?_))) | exact RdH.at (by assumption) (M.sel (by first | ((repeat (first | with_reducible exact Sel.refl | with_reducible exact Sel.nil | with_reducible exact Del.here | with_reducible apply Del.there | with_reducible apply Sel.cons | with_reducible apply Sel.drop)); done) | (repeat (first | exact Sel.refl | exact Sel.nil | exact Del.here | apply Del.there | apply Sel.cons | apply Sel.drop)))) | exact M.rdLit' (by first | ((repeat (first | with_reducible exact Has.here | with_reducible refine Has.there ?_)); done) | (repeat (first | exact Has.here | refine Has.there ?_))) | exact M.rdLent (by first | ((repeat (first | with_reducible exact Has.here | with_reducible refine Has.there ?_)); done) | (repeat (first | exact Has.here | refine Has.there ?_))) | exact RdB.nil _ _ | exact RdB.sub (by first | with_reducible assumption | with_reducible exact RdB.mem (by with_reducible assumption) M | exact M.rdB (by first | ((repeat (first | with_reducible exact Has.here | with_reducible refine Has.there ?_)); done) | (repeat (first | exact Has.here | refine Has.there ?_))) | exact RdH.at (by assumption) (M.sel (by first | ((repeat (first | with_reducible exact Sel.refl | with_reducible exact Sel.nil | with_reducible exact Del.here | with_reducible apply Del.there | with_reducible apply Sel.cons | with_reducible apply Sel.drop)); done) | (repeat (first | exact Sel.refl | exact Sel.nil | exact Del.here | apply Del.there | apply Sel.cons | apply Sel.drop)))) | exact M.rdLit' (by first | ((repeat (first | with_reducible exact Has.here | with_reducible refine Has.there ?_)); done) | (repeat (first | exact Has.here | refine Has.there ?_))) | exact M.rdLent (by first | ((repeat (first | with_reducible exact Has.here | with_reducible refine Has.there ?_)); done) | (repeat (first | exact Has.here | refine Has.there ?_))) | exact RdB.nil _ _) (by omega) (by omega) | exact RdB.pre' (by first | with_reducible assumption | with_reducible exact RdB.mem (by with_reducible assumption) M | exact M.rdB (by first | ((repeat (first | with_reducible exact Has.here | with_reducible refine Has.there ?_)); done) | (repeat (first | exact Has.here | refine Has.there ?_))) | exact RdH.at (by assumption) (M.sel (by first | ((repeat (first | with_reducible exact Sel.refl | with_reducible exact Sel.nil | with_reducible exact Del.here | with_reducible apply Del.there | with_reducible apply Sel.cons | with_reducible apply Sel.drop)); done) | (repeat (first | exact Sel.refl | exact Sel.nil | exact Del.here | apply Del.there | apply Sel.cons | apply Sel.drop)))) | exact M.rdLit' (by first | ((repeat (first | with_reducible exact Has.here | with_reducible refine Has.there ?_)); done) | (repeat (first | exact Has.here | refine Has.there ?_))) | exact M.rdLent (by first | ((repeat (first | with_reducible exact Has.here | with_reducible refine Has.there ?_)); done) | (repeat (first | exact Has.here | refine Has.there ?_))) | exact RdB.nil _ _) (by omega) | exact RdB.suf (by first | with_reducible assumption | with_reducible exact RdB.mem (by with_reducible assumption) M | exact M.rdB (by first | ((repeat (first | with_reducible exact Has.here | with_reducible refine Has.there ?_)); done) | (repeat (first | exact Has.here | refine Has.there ?_))) | exact RdH.at (by assumption) (M.sel (by first | ((repeat (first | with_reducible exact Sel.refl | with_reducible exact Sel.nil | with_reducible exact Del.here | with_reducible apply Del.there | with_reducible apply Sel.cons | with_reducible apply Sel.drop)); done) | (repeat (first | exact Sel.refl | exact Sel.nil | exact Del.here | apply Del.there | apply Sel.cons | apply Sel.drop)))) | exact M.rdLit' (by first | ((repeat (first | with_reducible exact Has.here | with_reducible refine Has.there ?_)); done) | (repeat (first | exact Has.here | refine Has.there ?_))) | exact M.rdLent (by first | ((repeat (first | with_reducible exact Has.here | with_reducible refine Has.there ?_)); done) | (repeat (first | exact Has.here | refine Has.there ?_))) | exact RdB.nil _ _) (by omega)))) rfl ?_
      rintro _ w ⟨A5_3, c5_3, ps5_3, rfl, his5_3, M⟩
      dsimp only at his5_3 M
      refine WL.nil ?_
      refine WX.next ?_
      refine W.sub [(1, _), (3, _)] (.cons rfl (.cons rfl .nil)) ?_
      refine W.seq ?_
      refine W.region ?_
      refine WL.move rfl rfl ?_
      refine WL.buildB (es := [_]) Try.elem5 M rfl rfl (by apply BytesOf.lit (b := 98) (by decide); exact BytesOf.nil) (by rfl) rfl rfl ?_
      intro g6_1 w M
      refine WL.convLitH (l := [98]) Try.underlying34 Try.underlying5 rfl M (by first | ((repeat (first | with_reducible exact Del.here | with_reducible apply Del.there)); done) | (repeat (first | exact Del.here | apply Del.there))) (by rfl) (by rfl) rfl ?_
      intro w M
      refine WL.call Try.call15 rfl (Push2 _ his5_3 (Sn.ok_of (by dsimp only; decide +kernel)) _ _ [98] _ _ _ _ M (by first | ((repeat (first | with_reducible exact Del.here | with_reducible apply Del.there)); done) | (repeat (first | exact Del.here | apply Del.there))) (by intro w M; exact (by first | first | with_reducible assumption | with_reducible exact RdB.mem (by with_reducible assumption) M | exact M.rdB (by first | ((repeat (first | with_reducible exact Has.here | with_reducible refine Has.there ?_)); done) | (repeat (first | exact Has.here | refine Has.there ?_))) | exact RdH.at (by assumption) (M.sel (by first | ((repeat (first | with_reducible exact Sel.refl | with_reducible exact Sel.nil | with_reducible exact Del.here | with_reducible apply Del.there | with_reducible apply Sel.cons | with_reducible apply Sel.drop)); done) | (repeat (first | exact Sel.refl | exact Sel.nil | exact Del.here | apply Del.there | apply Sel.cons | apply Sel.drop)))) | exact M.rdLit' (by first | ((repeat (first | with_reducible exact Has.here | with_reducible refine Has.there ?_)); done) | (repeat (first | exact Has.here | refine Has.there ?_))) | exact M.rdLent (by first | ((repeat (first | with_reducible exact Has.here | with_reducible refine Has.there ?_)); done) | (repeat (first | exact Has.here | refine Has.there ?_))) | exact RdB.nil _ _ | exact RdB.sub (by first | with_reducible assumption | with_reducible exact RdB.mem (by with_reducible assumption) M | exact M.rdB (by first | ((repeat (first | with_reducible exact Has.here | with_reducible refine Has.there ?_)); done) | (repeat (first | exact Has.here | refine Has.there ?_))) | exact RdH.at (by assumption) (M.sel (by first | ((repeat (first | with_reducible exact Sel.refl | with_reducible exact Sel.nil | with_reducible exact Del.here | with_reducible apply Del.there | with_reducible apply Sel.cons | with_reducible apply Sel.drop)); done) | (repeat (first | exact Sel.refl | exact Sel.nil | exact Del.here | apply Del.there | apply Sel.cons | apply Sel.drop)))) | exact M.rdLit' (by first | ((repeat (first | with_reducible exact Has.here | with_reducible refine Has.there ?_)); done) | (repeat (first | exact Has.here | refine Has.there ?_))) | exact M.rdLent (by first | ((repeat (first | with_reducible exact Has.here | with_reducible refine Has.there ?_)); done) | (repeat (first | exact Has.here | refine Has.there ?_))) | exact RdB.nil _ _) (by omega) (by omega) | exact RdB.pre' (by first | with_reducible assumption | with_reducible exact RdB.mem (by with_reducible assumption) M | exact M.rdB (by first | ((repeat (first | with_reducible exact Has.here | with_reducible refine Has.there ?_)); done) | (repeat (first | exact Has.here | refine Has.there ?_))) | exact RdH.at (by assumption) (M.sel (by first | ((repeat (first | with_reducible exact Sel.refl | with_reducible exact Sel.nil | with_reducible exact Del.here | with_reducible apply Del.there | with_reducible apply Sel.cons | with_reducible apply Sel.drop)); done) | (repeat (first | exact Sel.refl | exact Sel.nil | exact Del.here | apply Del.there | apply Sel.cons | apply Sel.drop)))) | exact M.rdLit' (by first | ((repeat (first | with_reducible exact Has.here | with_reducible refine Has.there ?_)); done) | (repeat (first | exact Has.here | refine Has.there ?_))) | exact M.rdLent (by first | ((repeat (first | with_reducible exact Has.here | with_reducible refine Has.there ?_)); done) | (repeat (first | exact Has.here | refine Has.there ?_))) | exact RdB.nil _ _) (by omega) | exact RdB.suf (by first | with_reducible assumption | with_reducible exact RdB.mem (by with_reducible assumption) M | exact M.rdB (by first | ((repeat (first | with_reducible exact Has.here | with_reducible refine Has.there ?_)); done) | (repeat (first | exact Has.here | refine Has.there ?_))) | exact RdH.at (by assumption) (M.sel (by first | ((repeat (first | with_reducible exact Sel.refl | with_reducible exact Sel.nil | with_reducible exact Del.here | with_reducible apply Del.there | with_reducible apply Sel.cons | with_reducible apply Sel.drop)); done) | (repeat (first | exact Sel.refl | exact Sel.nil | exact Del.here | apply Del.there | apply Sel.cons | apply Sel.drop)))) | exact M.rdLit' (by first | ((repeat (first | with_reducible exact Has.here | with_reducible refine Has.there ?_)); done) | (repeat (first | exact Has.here | refine Has.there ?_))) | exact M.rdLent (by first | ((repeat (first | with_reducible exact Has.here | with_reducible refine Has.there ?_)); done) | (repeat (first | exact Has.here | refine Has.there ?_))) | exact RdB.nil _ _) (by omega)))) rfl ?_
      rintro _ w ⟨A6_3, c6_3, ps6_3, rfl, his6_3, M⟩
      dsimp only at his6_3 M
      refine WL.nil ?_
      refine WX.next ?_
      refine W.sub [(1, _), (3, _)] (.cons rfl (.cons rfl .nil)) ?_
      refine W.seq ?_
      refine W.region ?_
      refine WL.move rfl rfl ?_
      refine WL.buildB (es := [_]) Try.elem5 M rfl rfl (by apply BytesOf.lit (b := 99) (by decide); exact BytesOf.nil) (by rfl) rfl rfl ?_
      intro g7_1 w M
      refine WL.convLitH (l := [99]) Try.underlying34 Try.underlying5 rfl M (by first | ((repeat (first | with_reducible exact Del.here | with_reducible apply Del.there)); done) | (repeat (first | exact Del.here | apply Del.there))) (by rfl) (by rfl) rfl ?_
      intro w M
      refine WL.call Try.call15 rfl (Push2 _ his6_3 (Sn.ok_of (by dsimp only; decide +kernel)) _ _ [99] _ _ _ _ M (by first | ((repeat (first | with_reducible exact Del.here | with_reducible apply Del.there)); done) | (repeat (first | exact Del.here | apply Del.there))) (by intro w M; exact (by first | first | with_reducible assumption | with_reducible exact RdB.mem (by with_reducible assumption) M | exact M.rdB (by first | ((repeat (first | with_reducible exact Has.here | with_reducible refine Has.there ?_)); done) | (repeat (first | exact Has.here | refine Has.there ?_))) | exact RdH.at (by assumption) (M.sel (by first | ((repeat (first | with_reducible exact Sel.refl | with_reducible exact Sel.nil | with_reducible exact Del.here | with_reducible apply Del.there | with_reducible apply Sel.cons | with_reducible apply Sel.drop)); done) | (repeat (first | exact Sel.refl | exact Sel.nil | exact Del.here | apply Del.there | apply Sel.cons | apply Sel.drop)))) | exact M.rdLit' (by first | ((repeat (first | with_reducible exact Has.here | with_reducible refine Has.there ?_)); done) | (repeat (first | exact Has.here | refine Has.there ?_))) | exact M.rdLent (by first | ((repeat (first | with_reducible exact Has.here | with_reducible refine Has.there ?_)); done) | (repeat (first | exact Has.here | refine Has.there ?_))) | exact RdB.nil _ _ | exact RdB.sub (by first | with_reducible assumption | with_reducible exact RdB.mem (by with_reducible assumption) M | exact M.rdB (by first | ((repeat (first | with_reducible exact Has.here | with_reducible refine Has.there ?_)); done) | (repeat (first | exact Has.here | refine Has.there ?_))) | exact RdH.at (by assumption) (M.sel (by first | ((repeat (first | with_reducible exact Sel.refl | with_reducible exact Sel.nil | with_reducible exact Del.here | with_reducible apply Del.there | with_reducible apply Sel.cons | with_reducible apply Sel.drop)); done) | (repeat (first | exact Sel.refl | exact Sel.nil | exact Del.here | apply Del.there | apply Sel.cons | apply Sel.drop)))) | exact M.rdLit' (by first | ((repeat (first | with_reducible exact Has.here | with_reducible refine Has.there ?_)); done) | (repeat (first | exact Has.here | refine Has.there ?_))) | exact M.rdLent (by first | ((repeat (first | with_reducible exact Has.here | with_reducible refine Has.there ?_)); done) | (repeat (first | exact Has.here | refine Has.there ?_))) | exact RdB.nil _ _) (by omega) (by omega) | exact RdB.pre' (by first | with_reducible assumption | with_reducible exact RdB.mem (by with_reducible assumption) M | exact M.rdB (by first | ((repeat (first | with_reducible exact Has.here | with_reducible refine Has.there ?_)); done) | (repeat (first | exact Has.here | refine Has.there ?_))) | exact RdH.at (by assumption) (M.sel (by first | ((repeat (first | with_reducible exact Sel.refl | with_reducible exact Sel.nil | with_reducible exact Del.here | with_reducible apply Del.there | with_reducible apply Sel.cons | with_reducible apply Sel.drop)); done) | (repeat (first | exact Sel.refl | exact Sel.nil | exact Del.here | apply Del.there | apply Sel.cons | apply Sel.drop)))) | exact M.rdLit' (by first | ((repeat (first | with_reducible exact Has.here | with_reducible refine Has.there ?_)); done) | (repeat (first | exact Has.here | refine Has.there ?_))) | exact M.rdLent (by first | ((repeat (first | with_reducible exact Has.here | with_reducible refine Has.there ?_)); done) | (repeat (first | exact Has.here | refine Has.there ?_))) | exact RdB.nil _ _) (by omega) | exact RdB.suf (by first | with_reducible assumption | with_reducible exact RdB.mem (by with_reducible assumption) M | exact M.rdB (by first | ((repeat (first | with_reducible exact Has.here | with_reducible refine Has.there ?_)); done) | (repeat (first | exact Has.here | refine Has.there ?_))) | exact RdH.at (by assumption) (M.sel (by first | ((repeat (first | with_reducible exact Sel.refl | with_reducible exact Sel.nil | with_reducible exact Del.here | with_reducible apply Del.there | with_reducible apply Sel.cons | with_reducible apply Sel.drop)); done) | (repeat (first | exact Sel.refl | exact Sel.nil | exact Del.here | apply Del.there | apply Sel.cons | apply Sel.drop)))) | exact M.rdLit' (by first | ((repeat (first | with_reducible exact Has.here | with_reducible refine Has.there ?_)); done) | (repeat (first | exact Has.here | refine Has.there ?_))) | exact M.rdLent (by first | ((repeat (first | with_reducible exact Has.here | with_reducible refine Has.there ?_)); done) | (repeat (first | exact Has.here | refine Has.there ?_))) | exact RdB.nil _ _) (by omega)))) rfl ?_
      rintro _ w ⟨A7_3, c7_3, ps7_3, rfl, his7_3, M⟩
      dsimp only at his7_3 M
      refine WL.nil ?_
      refine WX.next ?_
      refine W.sub [(1, _), (3, _)] (.cons rfl (.cons rfl .nil)) ?_
      refine W.seq ?_
      refine W.region ?_
      refine WL.move rfl rfl ?_
      refine WL.call Try.call19 rfl (Tick2 _ his7_3 (Sn.ok_of (by dsimp only; decide +kernel)) _ _ _ _ M (by first | ((repeat (first | with_reducible exact Del.here | with_reducible apply Del.there)); done) | (repeat (first | exact Del.here | apply Del.there)))) rfl ?_
      rintro _ w ⟨A8_1, c8_1, ps8_1, Ao8_1, co8_1, o8_1, rfl, his8_1, ho8_1, M⟩
      dsimp only at his8_1 ho8_1 M
      have ho1 : o8_1.map SX.key = [(1, 1, false, [97]), (1, 2, false, [98])] := ho8_1.trans (by decide +kernel)
      have hl1 : o8_1.length = 2 := by have := congrArg List.length ho1; simpa using this
      obtain ⟨k0, _, hm0⟩ := key_at ho1 (k := 0) (by decide)
      obtain ⟨k1, _, hm1⟩ := key_at ho1 (k := 1) (by decide)
      have k0' : (el o8_1 0).key = (1, 1, false, [97]) := k0
      have k1' : (el o8_1 1).key = (1, 2, false, [98]) := k1
      have a1 : (el o8_1 0).life = 1 := congrArg (·.1) k0'
      have a2 : (el o8_1 0).seq = 1 := congrArg (·.2.1) k0'
      have a3 : (el o8_1 1).life = 1 := congrArg (·.1) k1'
      have a4 : (el o8_1 1).seq = 2 := congrArg (·.2.1) k1'
      refine WL.assign rfl rfl ?_
      refine WL.nil ?_
      refine WX.next ?_
      refine W.sub [(1, _), (3, _), (5, _)] (.cons rfl (.cons rfl (.cons rfl .nil))) ?_
      refine W.seq ?_
      refine W.seq ?_
      refine W.region ?_
      refine WL.move rfl rfl ?_
      refine WL.len Try.underlying45 rfl rfl ?_
      refine WL.neI rfl rfl rfl ?_
      refine WL.moveIf rfl rfl (fun c4 => ?_) (fun c4 => ?_)
      · exact absurd c4 (by omega)
      · refine WL.on rfl rfl ?_
        refine WL.move rfl rfl ?_
        refine WL.on rfl rfl ?_
        refine WL.call Try.call19 rfl (Tick2 _ his8_1 (Sn.ok_of (by dsimp only; decide +kernel)) _ _ _ _ M (by first | ((repeat (first | with_reducible exact Del.here | with_reducible apply Del.there)); done) | (repeat (first | exact Del.here | apply Del.there)))) rfl ?_
        rintro _ w ⟨A9_5, c9_5, ps9_5, Ao9_5, co9_5, o9_5, rfl, his9_5, ho9_5, M⟩
        dsimp only at his9_5 ho9_5 M
        have hl2 : o9_5.length = 0 := by have := congrArg List.length (ho9_5.trans (show tickO _ = [] from by decide +kernel)); simpa using this
        refine WL.on rfl rfl ?_
        refine WL.len Try.underlying45 rfl rfl ?_
        refine WL.on rfl rfl ?_
        refine WL.neI rfl rfl rfl ?_
        refine WL.pickF rfl rfl rfl ?_
        refine WL.moveIf rfl rfl (fun c5 => ?_) (fun c5 => ?_)
        · exact absurd c5 (by omega)
        · refine WL.on rfl rfl ?_
          refine WL.move rfl rfl ?_
          refine WL.on rfl rfl ?_
          refine WL.call Try.call19 rfl (Tick2 _ his9_5 (Sn.ok_of (by dsimp only; decide +kernel)) _ _ _ _ M (by first | ((repeat (first | with_reducible exact Del.here | with_reducible apply Del.there)); done) | (repeat (first | exact Del.here | apply Del.there)))) rfl ?_
          rintro _ w ⟨A9_11, c9_11, ps9_11, Ao9_11, co9_11, o9_11, rfl, his9_11, ho9_11, M⟩
          dsimp only at his9_11 ho9_11 M
          have hl3 : o9_11.length = 0 := by have := congrArg List.length (ho9_11.trans (show tickO _ = [] from by decide +kernel)); simpa using this
          refine WL.on rfl rfl ?_
          refine WL.len Try.underlying45 rfl rfl ?_
          refine WL.on rfl rfl ?_
          refine WL.neI rfl rfl rfl ?_
          refine WL.pickF rfl rfl rfl ?_
          refine WL.moveIf rfl rfl (fun c6 => ?_) (fun c6 => ?_)
          · exact absurd c6 (by omega)
          · refine WL.on rfl rfl ?_
            refine WL.move rfl rfl ?_
            refine WL.on rfl rfl ?_
            refine WL.call Try.call19 rfl (Tick2 _ his9_11 (Sn.ok_of (by dsimp only; decide +kernel)) _ _ _ _ M (by first | ((repeat (first | with_reducible exact Del.here | with_reducible apply Del.there)); done) | (repeat (first | exact Del.here | apply Del.there)))) rfl ?_
            rintro _ w ⟨A9_17, c9_17, ps9_17, Ao9_17, co9_17, o9_17, rfl, his9_17, ho9_17, M⟩
            dsimp only at his9_17 ho9_17 M
            have hl4 : o9_17.length = 2 := by have := congrArg List.length (ho9_17.trans (show tickO _ = [(1, 1, false, [97]), (1, 2, false, [98])] from by decide +kernel)); simpa using this
            refine WL.on rfl rfl ?_
            refine WL.len Try.underlying45 rfl rfl ?_
            refine WL.on rfl rfl ?_
            refine WL.neI rfl rfl rfl ?_
            refine WL.pickF rfl rfl rfl ?_
            refine WL.nil ?_
            refine WX.next ?_
            refine W.sub [(1, _), (3, _), (5, _), (70, _)] (.cons rfl (.cons rfl (.cons rfl (.cons rfl .nil)))) ?_
            refine W.ite rfl (fun c7 => ?_) (fun c7 => ?_)
            · exact absurd c7 (by omega)
            · refine W.skip ?_
              refine WX.next ?_
              refine W.seq ?_
              refine W.region ?_
              refine WL.move rfl rfl ?_
              refine WL.move rfl rfl ?_
              refine WL.idxA (jn := 1) Try.underlying45 Try.sizeOf36 rfl rfl (RdL.isSome (E := segE) (by first | with_reducible assumption | with_reducible exact RdL.mem (by with_reducible assumption) M | exact M.rdL (by first | ((repeat (first | with_reducible exact Has.here | with_reducible refine Has.there ?_)); done) | (repeat (first | exact Has.here | refine Has.there ?_))) | exact RdLH.at (by assumption) (M.sel (by first | ((repeat (first | with_reducible exact Sel.refl | with_reducible exact Sel.nil | with_reducible exact Del.here | with_reducible apply Del.there | with_reducible apply Sel.cons | with_reducible apply Sel.drop)); done) | (repeat (first | exact Sel.refl | exact Sel.nil | exact Del.here | apply Del.there | apply Sel.cons | apply Sel.drop)))) | exact RdL.nil _ _ _) (by omega)) (by omega) (by omega) (by first | exact rfl | exact (Int.toNat_of_nonneg (by omega)).symm) rfl ?_
              refine WL.loadL (E := segE) (cs := [_, _, _, _]) Try.isAgg36 Try.sizeOf36 rfl (by first | with_reducible assumption | with_reducible exact RdL.mem (by with_reducible assumption) M | exact M.rdL (by first | ((repeat (first | with_reducible exact Has.here | with_reducible refine Has.there ?_)); done) | (repeat (first | exact Has.here | refine Has.there ?_))) | exact RdLH.at (by assumption) (M.sel (by first | ((repeat (first | with_reducible exact Sel.refl | with_reducible exact Sel.nil | with_reducible exact Del.here | with_reducible apply Del.there | with_reducible apply Sel.cons | with_reducible apply Sel.drop)); done) | (repeat (first | exact Sel.refl | exact Sel.nil | exact Del.here | apply Del.there | apply Sel.cons | apply Sel.drop)))) | exact RdL.nil _ _ _) rfl (by omega) rfl rfl ?_
              refine WL.call Try.call33 rfl (HearR2 gr gm [] ⟨2, 0, 0, []⟩ rfl (Rc.ok_of (by decide +kernel)) (el o8_1 1) (by omega) (by omega) _ _ _ _ M (by first | ((repeat (first | with_reducible exact Del.here | with_reducible apply Del.there)); done) | (repeat (first | exact Del.here | apply Del.there))) (by intro w M; exact M.segRd (by first | ((repeat (first | with_reducible exact Has.here | with_reducible refine Has.there ?_)); done) | (repeat (first | exact Has.here | refine Has.there ?_))) hm1)) rfl ?_
              rintro _ w ⟨gm1, ms1, A11, c11, b11, rfl, hms1, hb11, _, M⟩
              rw [k1'] at hms1 hb11 M ⊢
              have hl5 : b11.length = 0 := by have := congrArg List.length (hb11.trans (show rhO ⟨2, 0, 0, []⟩ (1, 2, false, [98]) = [] from by decide +kernel)); simpa using this
              rw [show rhS ⟨2, 0, 0, []⟩ (1, 2, false, [98]) = ⟨2, 1, 0, [(2, [98])]⟩ from by decide +kernel] at hms1 M
              refine WL.move rfl rfl ?_
              refine WL.extractL rfl rfl rfl ?_
              refine WL.extractL rfl rfl rfl ?_
              refine WL.extractL rfl rfl rfl ?_
              refine WL.alloc Try.zeroValue36 M rfl ?_
              intro g11_9 w M
              try simp only [Value.cells] at M
              try simp only [List.toList_toArray] at M
              refine WL.assign rfl rfl ?_
              refine WL.storeWA Try.sizeOf36 rfl rfl (by repeat (first | exact oneNil | refine oneCons rfl ?_)) rfl rfl M (by first | ((repeat (first | with_reducible exact Upd.here | with_reducible apply Upd.there)); done) | (repeat (first | exact Upd.here | apply Upd.there))) ?_
              intro w M
              refine WL.assign rfl rfl ?_
              refine WL.nil ?_
              refine WX.next ?_
              refine W.sub [(1, _), (3, _), (5, _), (6, _)] (.cons rfl (.cons rfl (.cons rfl (.cons rfl .nil)))) ?_
              refine W.seq ?_
              refine W.region ?_
              refine WL.move rfl rfl ?_
              refine WL.move rfl rfl ?_
              refine WL.idxA (jn := 0) Try.underlying45 Try.sizeOf36 rfl rfl (RdL.isSome (E := segE) (by first | with_reducible assumption | with_reducible exact RdL.mem (by with_reducible assumption) M | exact M.rdL (by first | ((repeat (first | with_reducible exact Has.here | with_reducible refine Has.there ?_)); done) | (repeat (first | exact Has.here | refine Has.there ?_))) | exact RdLH.at (by assumption) (M.sel (by first | ((repeat (first | with_reducible exact Sel.refl | with_reducible exact Sel.nil | with_reducible exact Del.here | with_reducible apply Del.there | with_reducible apply Sel.cons | with_reducible apply Sel.drop)); done) | (repeat (first | exact Sel.refl | exact Sel.nil | exact Del.here | apply Del.there | apply Sel.cons | apply Sel.drop)))) | exact RdL.nil _ _ _) (by omega)) (by omega) (by omega) (by first | exact rfl | exact (Int.toNat_of_nonneg (by omega)).symm) rfl ?_
              refine WL.loadL (E := segE) (cs := [_, _, _, _]) Try.isAgg36 Try.sizeOf36 rfl (by first | with_reducible assumption | with_reducible exact RdL.mem (by with_reducible assumption) M | exact M.rdL (by first | ((repeat (first | with_reducible exact Has.here | with_reducible refine Has.there ?_)); done) | (repeat (first | exact Has.here | refine Has.there ?_))) | exact RdLH.at (by assumption) (M.sel (by first | ((repeat (first | with_reducible exact Sel.refl | with_reducible exact Sel.nil | with_reducible exact Del.here | with_reducible apply Del.there | with_reducible apply Sel.cons | with_reducible apply Sel.drop)); done) | (repeat (first | exact Sel.refl | exact Sel.nil | exact Del.here | apply Del.there | apply Sel.cons | apply Sel.drop)))) | exact RdL.nil _ _ _) rfl (by omega) rfl rfl ?_
              refine WL.call Try.call33 rfl (HearR2 gr gm1 ms1 ⟨2, 1, 0, [(2, [98])]⟩ hms1 (Rc.ok_of (by decide +kernel)) (el o8_1 0) (by omega) (by omega) _ _ _ _ M (by first | ((repeat (first | with_reducible exact Del.here | with_reducible apply Del.there)); done) | (repeat (first | exact Del.here | apply Del.there))) (by intro w M; exact M.segRd (by first | ((repeat (first | with_reducible exact Has.here | with_reducible refine Has.there ?_)); done) | (repeat (first | exact Has.here | refine Has.there ?_))) hm0)) rfl ?_
              rintro _ w ⟨gm2, ms2, A12, c12, b12, rfl, hms2, hb12, _, M⟩
              rw [k0'] at hms2 hb12 M ⊢
              have hb12' : b12.map OX.l = [[97], [98]] := hb12.trans (by decide +kernel)
              have hl6 : b12.length = 2 := by have := congrArg List.length hb12'; simpa using this
              have hb1 : (el b12 1).l = [98] := by rw [← el_map OX.l (by omega), hb12']; rfl
              rw [show rhA ⟨2, 1, 0, [(2, [98])]⟩ (1, 1, false, [97]) = (1, 2, true, []) from by decide +kernel]
              refine WL.move rfl rfl ?_
              refine WL.extractL rfl rfl rfl ?_
              refine WL.extractL rfl rfl rfl ?_
              refine WL.extractL rfl rfl rfl ?_
              refine WL.alloc Try.zeroValue36 M rfl ?_
              intro g12_9 w M
              try simp only [Value.cells] at M
              try simp only [List.toList_toArray] at M
              refine WL.assign rfl rfl ?_
              refine WL.storeWA Try.sizeOf36 rfl rfl (by repeat (first | exact oneNil | refine oneCons rfl ?_)) rfl rfl M (by first | ((repeat (first | with_reducible exact Upd.here | with_reducible apply Upd.there)); done) | (repeat (first | exact Upd.here | apply Upd.there))) ?_
              intro w M
              refine WL.assign rfl rfl ?_
              refine WL.nil ?_
              refine WX.next ?_
              refine W.sub [(1, _), (6, _), (9, _), (10, _)] (.cons rfl (.cons rfl (.cons rfl (.cons rfl .nil)))) ?_
              refine W.seq ?_
              refine W.region ?_
              refine WL.move rfl rfl ?_
              refine WL.loadW Try.isAgg36 Try.sizeOf36 rfl M (by first | ((repeat (first | with_reducible exact Has.here | with_reducible refine Has.there ?_)); done) | (repeat (first | exact Has.here | refine Has.there ?_))) rfl rfl ?_
              refine WL.call Try.call22 rfl (HearS2 _ his9_17 (Sn.ok_of (by dsimp only; decide +kernel)) ⟨1, 2, true, ⟨none, 0, []⟩⟩ (by decide) _ _ _ _ M (by first | ((repeat (first | with_reducible exact Del.here | with_reducible apply Del.there)); done) | (repeat (first | exact Del.here | apply Del.there)))) rfl ?_
              rintro _ w ⟨A13, c13, ps13, rfl, his13, M⟩
              dsimp only at his13 M
              rw [show hearE _ (SX.key ⟨1, 2, true, ⟨none, 0, []⟩⟩) = 0 from by dsimp only; decide +kernel]
              refine WL.assign rfl rfl ?_
              refine WL.nil ?_
              refine WX.next ?_
              refine W.sub [(1, _), (6, _), (9, _), (10, _), (12, _)] (.cons rfl (.cons rfl (.cons rfl (.cons rfl (.cons rfl .nil))))) ?_
              refine W.seq ?_
              refine W.region ?_
              refine WL.move rfl rfl ?_
              refine WL.call Try.call19 rfl (Tick2 _ his13 (Sn.ok_of (by dsimp only; decide +kernel)) _ _ _ _ M (by first | ((repeat (first | with_reducible exact Del.here | with_reducible apply Del.there)); done) | (repeat (first | exact Del.here | apply Del.there)))) rfl ?_
              rintro _ w ⟨A14_1, c14_1, ps14_1, Ao14_1, co14_1, o14_1, rfl, his14_1, ho14_1, M⟩
              dsimp only at his14_1 ho14_1 M
              have ho2 : o14_1.map SX.key = [(1, 3, false, [99])] := ho14_1.trans (by decide +kernel)
              have hl7 : o14_1.length = 1 := by have := congrArg List.length ho2; simpa using this
              obtain ⟨k3, _, _⟩ := key_at ho2 (k := 0) (by decide)
              have k3' : (el o14_1 0).key = (1, 3, false, [99]) := k3
              have a5 : (el o14_1 0).seq = 3 := congrArg (·.2.1) k3'
              have hl8 : ps14_1.length = 1 := by have := SnX.is.len his14_1; rw [← this]; dsimp only; decide +kernel
              refine WL.assign rfl rfl ?_
              refine WL.nil ?_
              refine WX.next ?_
              refine W.sub [(1, _), (6, _), (9, _), (10, _), (12, _), (13, _)] (.cons rfl (.cons rfl (.cons rfl (.cons rfl (.cons rfl (.cons rfl .nil)))))) ?_
              refine W.seq ?_
              refine W.region ?_
              refine WL.move rfl rfl ?_
              refine WL.len Try.underlying33 rfl rfl ?_
              refine WL.eqI rfl rfl rfl ?_
              refine WL.moveIf rfl rfl (fun c8 => ?_) (fun c8 => ?_)
              · refine WL.on rfl rfl ?_
                refine WL.move rfl rfl ?_
                refine WL.on rfl rfl ?_
                refine WL.len Try.underlying33 rfl rfl ?_
                refine WL.on rfl rfl ?_
                refine WL.eqI rfl rfl rfl ?_
                refine WL.pickT rfl rfl rfl ?_
                refine WL.moveIf rfl rfl (fun c9 => ?_) (fun c9 => ?_)
                · refine WL.on rfl rfl ?_
                  refine WL.move rfl rfl ?_
                  refine WL.on rfl rfl ?_
                  refine WL.idxA (jn := 1) Try.underlying33 Try.sizeOf34 rfl rfl (RdL.isSome (E := oxE) (by first | with_reducible assumption | with_reducible exact RdL.mem (by with_reducible assumption) M | exact M.rdL (by first | ((repeat (first | with_reducible exact Has.here | with_reducible refine Has.there ?_)); done) | (repeat (first | exact Has.here | refine Has.there ?_))) | exact RdLH.at (by assumption) (M.sel (by first | ((repeat (first | with_reducible exact Sel.refl | with_reducible exact Sel.nil | with_reducible exact Del.here | with_reducible apply Del.there | with_reducible apply Sel.cons | with_reducible apply Sel.drop)); done) | (repeat (first | exact Sel.refl | exact Sel.nil | exact Del.here | apply Del.there | apply Sel.cons | apply Sel.drop)))) | exact RdL.nil _ _ _) (by omega)) (by omega) (by omega) (by first | exact rfl | exact (Int.toNat_of_nonneg (by omega)).symm) rfl ?_
                  refine WL.on rfl rfl ?_
                  refine WL.loadE0 (E := oxE) Try.isAgg34 rfl (by first | with_reducible assumption | with_reducible exact RdL.mem (by with_reducible assumption) M | exact M.rdL (by first | ((repeat (first | with_reducible exact Has.here | with_reducible refine Has.there ?_)); done) | (repeat (first | exact Has.here | refine Has.there ?_))) | exact RdLH.at (by assumption) (M.sel (by first | ((repeat (first | with_reducible exact Sel.refl | with_reducible exact Sel.nil | with_reducible exact Del.here | with_reducible apply Del.there | with_reducible apply Sel.cons | with_reducible apply Sel.drop)); done) | (repeat (first | exact Sel.refl | exact Sel.nil | exact Del.here | apply Del.there | apply Sel.cons | apply Sel.drop)))) | exact RdL.nil _ _ _) (by omega) rfl rfl ?_
                  refine WL.on rfl rfl ?_
                  refine WL.toStr Try.underlying34 Try.underlying5 Try.underlying9 rfl (ownRd (M.starHas (f := OX.O) (by first | ((repeat (first | with_reducible exact Has.here | with_reducible refine Has.there ?_)); done) | (repeat (first | exact Has.here | refine Has.there ?_))) (el_mem (by omega)))) rfl rfl ?_
                  refine WL.on rfl rfl ?_
                  refine WL.eqS rfl rfl rfl ?_
                  refine WL.pickT rfl rfl rfl ?_
                  refine WL.moveIf rfl rfl (fun c10 => ?_) (fun c10 => ?_)
                  · refine WL.on rfl rfl ?_
                    refine WL.fieldR (off := 1) Try.underlying36 rfl rfl Try.sizeOf22 rfl rfl rfl ?_
                    refine WL.on rfl rfl ?_
                    refine WL.loadR Try.isAgg22 rfl M (by first | ((repeat (first | with_reducible exact Has.here | with_reducible refine Has.there ?_)); done) | (repeat (first | exact Has.here | refine Has.there ?_))) rfl rfl ?_
                    refine WL.on rfl rfl ?_
                    refine WL.eqI rfl rfl rfl ?_
                    refine WL.pickT rfl rfl rfl ?_
                    refine WL.moveIf rfl rfl (fun c11 => ?_) (fun c11 => ?_)
                    · refine WL.on rfl rfl ?_
                      refine WL.fieldR (off := 2) Try.underlying36 rfl rfl Try.sizeOf4 rfl rfl rfl ?_
                      refine WL.on rfl rfl ?_
                      refine WL.loadR Try.isAgg4 rfl M (by first | ((repeat (first | with_reducible exact Has.here | with_reducible refine Has.there ?_)); done) | (repeat (first | exact Has.here | refine Has.there ?_))) rfl rfl ?_
                      refine WL.pickT rfl rfl rfl ?_
                      refine WL.moveIfB rfl rfl (fun c12 => ?_) (fun c12 => ?_)
                      · refine WL.on rfl rfl ?_
                        refine WL.move rfl rfl ?_
                        refine WL.on rfl rfl ?_
                        refine WL.eqI rfl rfl rfl ?_
                        refine WL.pickT rfl rfl rfl ?_
                        refine WL.moveIf rfl rfl (fun c13 => ?_) (fun c13 => ?_)
                        · refine WL.on rfl rfl ?_
                          refine WL.move rfl rfl ?_
                          refine WL.on rfl rfl ?_
                          refine WL.call Try.call24 rfl (Left_ok ⟨_, A14_1, c14_1, ps14_1, _⟩ _ _ _ _ M (by first | ((repeat (first | with_reducible exact Del.here | with_reducible apply Del.there)); done) | (repeat (first | exact Del.here | apply Del.there)))) rfl ?_
                          rintro _ _ ⟨rfl, rfl⟩
                          refine WL.on rfl rfl ?_
                          refine WL.eqI rfl rfl rfl ?_
                          refine WL.pickT rfl rfl rfl ?_
                          refine WL.moveIf rfl rfl (fun c14 => ?_) (fun c14 => ?_)
                          · refine WL.on rfl rfl ?_
                            refine WL.move rfl rfl ?_
                            refine WL.on rfl rfl ?_
                            refine WL.len Try.underlying45 rfl rfl ?_
                            refine WL.on rfl rfl ?_
                            refine WL.eqI rfl rfl rfl ?_
                            refine WL.pickT rfl rfl rfl ?_
                            refine WL.moveIf rfl rfl (fun c15 => ?_) (fun c15 => ?_)
                            · refine WL.on rfl rfl ?_
                              refine WL.move rfl rfl ?_
                              refine WL.on rfl rfl ?_
                              refine WL.idxA (jn := 0) Try.underlying45 Try.sizeOf36 rfl rfl (RdL.isSome (E := segE) (by first | with_reducible assumption | with_reducible exact RdL.mem (by with_reducible assumption) M | exact M.rdL (by first | ((repeat (first | with_reducible exact Has.here | with_reducible refine Has.there ?_)); done) | (repeat (first | exact Has.here | refine Has.there ?_))) | exact RdLH.at (by assumption) (M.sel (by first | ((repeat (first | with_reducible exact Sel.refl | with_reducible exact Sel.nil | with_reducible exact Del.here | with_reducible apply Del.there | with_reducible apply Sel.cons | with_reducible apply Sel.drop)); done) | (repeat (first | exact Sel.refl | exact Sel.nil | exact Del.here | apply Del.there | apply Sel.cons | apply Sel.drop)))) | exact RdL.nil _ _ _) (by omega)) (by omega) (by omega) (by first | exact rfl | exact (Int.toNat_of_nonneg (by omega)).symm) rfl ?_
                              refine WL.on rfl rfl ?_
                              refine WL.fieldA (off := 1) Try.underlying36 rfl rfl Try.sizeOf22 rfl rfl rfl ?_
                              refine WL.on rfl rfl ?_
                              refine WL.loadE (E := segE) Try.isAgg22 rfl (by first | with_reducible assumption | with_reducible exact RdL.mem (by with_reducible assumption) M | exact M.rdL (by first | ((repeat (first | with_reducible exact Has.here | with_reducible refine Has.there ?_)); done) | (repeat (first | exact Has.here | refine Has.there ?_))) | exact RdLH.at (by assumption) (M.sel (by first | ((repeat (first | with_reducible exact Sel.refl | with_reducible exact Sel.nil | with_reducible exact Del.here | with_reducible apply Del.there | with_reducible apply Sel.cons | with_reducible apply Sel.drop)); done) | (repeat (first | exact Sel.refl | exact Sel.nil | exact Del.here | apply Del.there | apply Sel.cons | apply Sel.drop)))) | exact RdL.nil _ _ _) (by omega) rfl rfl ?_
                              refine WL.on rfl rfl ?_
                              refine WL.eqI rfl rfl rfl ?_
                              refine WL.pickT rfl rfl rfl ?_
                              refine WL.assign rfl rfl ?_
                              refine WL.nil ?_
                              refine WX.next ?_
                              refine W.sub [(0, _)] (.cons rfl .nil) ?_
                              refine W.ret ?_
                              refine WX.ret1 rfl rfl ?_
                              exact ⟨by rw [a5]; rfl, M.sel (by first | ((repeat (first | with_reducible exact Sel.refl | with_reducible exact Sel.nil | with_reducible exact Del.here | with_reducible apply Del.there | with_reducible apply Sel.cons | with_reducible apply Sel.drop)); done) | (repeat (first | exact Sel.refl | exact Sel.nil | exact Del.here | apply Del.there | apply Sel.cons | apply Sel.drop)))⟩
                            · exact absurd c15 (by omega)
                          · exact absurd (by dsimp only; omega) c14
                        · exact absurd c13 (by omega)
                      · exact absurd c12 (by decide)
                    · exact absurd c11 (by omega)
                  · exact absurd hb1 c10
                · exact absurd c9 (by omega)
              · exact absurd c8 (by omega)
end Go.Proofs.Ytgaegaaaoopolaa
