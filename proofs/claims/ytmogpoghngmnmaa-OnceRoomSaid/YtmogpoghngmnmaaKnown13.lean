/-
  Walk: seawalllaw13.known: what the chapter's examples fix.
-/
import Derived.Test.YtmogpoghngmnmaaOnce7
namespace Go.Proofs.Ytmogpoghngmnmaa
open Go Go.RowKit Bin

section
variable (x : OT) (hok : x.ok) {t t' : Tb} (hs : x.s = t) (id num : Nat) (w0 w : World) (L : List Asr) (M : Mem w0 w (x.L ++ L))
include hok hs M
theorem Begin2 (hb : t.begun < 4611686018427387904 ∧ t.was < 4611686018427387904) (hid : id < 18446744073709551616) (hnum : num < 18446744073709551616) {a e : Int} {R : List UInt8} (ha : begA t id num = a) (he : begE t id num = e) (hR : begR t id num = R) (ht : begS t id num = t') :
    Fn Try.prog 12 [.pointer (some ⟨x.g, 0, none⟩), .int .u64 (id : Int), .int .u64 (num : Int)] w fun v w' => ∃ (x' : OT) (A' : Option Addr) (cap' : Nat), v = .tuple #[.int .i64 a, .slice A' R.length cap', .int .i64 e] ∧ x.g = x'.g ∧ x'.s = t' ∧ x'.ok ∧
      Mem w0 w' (Asr.own 5 1 A' R.length cap' (bs R) :: (x'.L ++ L)) := by
  subst hs ha he hR ht
  exact Begin_ok x hok hb id num hid hnum w0 w L M
theorem End2 (hid : id < 18446744073709551616) (hnum : num < 18446744073709551616) (B : Option Addr) (cB : Nat) (rep : List UInt8) (hb : RdH w0 L B cB rep) {e : Int} (he : endE t id num rep = e) (ht : endS t id num rep = t') :
    Fn Try.prog 14 [.pointer (some ⟨x.g, 0, none⟩), .int .u64 (id : Int), .int .u64 (num : Int), .slice B rep.length cB] w fun v w' => v = .int .i64 e ∧ ∃ x' : OT, x.g = x'.g ∧ x'.s = t' ∧ x'.ok ∧ Mem w0 w' (x'.L ++ L) := by
  subst hs he ht
  exact End_ok x hok id num hid hnum B cB rep w0 w L M hb
omit hok in
theorem Counts2 : Fn Try.prog 18 [.pointer (some ⟨x.g, 0, none⟩)] w fun v w' => v = .tuple #[.int .i64 (t.begun : Int), .int .i64 (t.was : Int)] ∧ Mem w0 w' (x.L ++ L) := by
  subst hs
  exact Counts_ok x w0 w L M
theorem Save2 {B : List UInt8} (hB : saveB t = B) : Fn Try.prog 19 [.pointer (some ⟨x.g, 0, none⟩)] w fun v w' => ∃ (A' : Option Addr) (cap' : Nat), v = .slice A' B.length cap' ∧ Mem w0 w' (Asr.own 5 1 A' B.length cap' (bs B) :: (x.L ++ L)) := by
  subst hs hB
  exact Save_ok x hok w0 w L M
end

set_option maxRecDepth 10000 in
set_option maxHeartbeats 2000000 in
theorem known13_ok (w0 : World) : Fn Try.prog 10 [] w0 fun v w' => v = .bool (decide True) ∧ Mem w0 w' [] := by
  have M := Mem.refl w0
  refine Fn.enter Try.func10 rfl Try.ntmps10 rfl ?_
  refine W.sub [] .nil ?_
  refine W.seq ?_
  refine W.region ?_
  refine WL.assign rfl rfl ?_
  refine WL.nil ?_
  refine WX.next ?_
  refine W.sub [] .nil ?_
  refine W.seq ?_
  refine W.region ?_
  refine WL.call Try.call11 rfl (onceNew_ok 2 (by omega) _) rfl ?_
  rintro _ w ⟨x0, rfl, hs0, ho0, m⟩
  replace M : Mem w0 w (x0.L ++ []) := M.callN m; clear m
  refine WL.move rfl rfl ?_
  refine WL.extractL rfl rfl rfl ?_
  refine WL.extractL rfl rfl rfl ?_
  refine WL.assign rfl rfl ?_
  refine WL.assign rfl rfl ?_
  refine WL.nil ?_
  refine WX.next ?_
  refine W.sub [(1, _), (2, _)] (.cons rfl (.cons rfl .nil)) ?_
  refine W.seq ?_
  refine W.seq ?_
  refine W.region ?_
  refine WL.move rfl rfl ?_
  refine WL.neI rfl rfl rfl ?_
  refine WL.moveIf rfl rfl (fun c0 => ?_) (fun c0 => ?_)
  · exact absurd rfl c0
  · refine WL.on rfl rfl ?_
    refine WL.move rfl rfl ?_
    refine WL.on rfl rfl ?_
    refine WL.eqNilF Try.underlying25 rfl rfl rfl ?_
    refine WL.pickF rfl rfl rfl ?_
    refine WL.nil ?_
    refine WX.next ?_
    refine W.sub [(1, _), (35, _)] (.cons rfl (.cons rfl .nil)) ?_
    refine W.condF rfl ?_
    refine W.skip ?_
    refine WX.next ?_
    refine W.seq ?_
    refine W.region ?_
    refine WL.move rfl rfl ?_
    refine WL.call Try.call12 rfl (Begin2 x0 ho0 hs0 7 1 w0 w [] M (by dsimp only; omega) (by omega) (by omega) (a := 1) (e := 0) (R := []) (t' := ⟨2, [⟨7, 1, true, []⟩], 1, 0⟩) (by decide +kernel) (by decide +kernel) (by decide +kernel) (by decide +kernel)) rfl ?_
    rintro _ w ⟨x1, A1, k1, rfl, hg1, hs1, ho1, M⟩
    rw [hg1]
    replace M := M.tail
    refine WL.move rfl rfl ?_
    refine WL.extractL rfl rfl rfl ?_
    refine WL.extractL rfl rfl rfl ?_
    refine WL.extractL rfl rfl rfl ?_
    refine WL.assign rfl rfl ?_
    refine WL.assign rfl rfl ?_
    refine WL.assign rfl rfl ?_
    refine WL.nil ?_
    refine WX.next ?_
    refine W.sub [(1, _), (3, _)] (.cons rfl (.cons rfl .nil)) ?_
    refine W.seq ?_
    refine W.region ?_
    refine WL.move rfl rfl ?_
    refine WL.call Try.call12 rfl (Begin2 x1 ho1 hs1 7 1 w0 w [] M (by dsimp only; omega) (by omega) (by omega) (a := 3) (e := 0) (R := []) (t' := ⟨2, [⟨7, 1, true, []⟩], 1, 0⟩) (by decide +kernel) (by decide +kernel) (by decide +kernel) (by decide +kernel)) rfl ?_
    rintro _ w ⟨x2, A2, k2, rfl, hg2, hs2, ho2, M⟩
    rw [hg2]
    replace M := M.tail
    refine WL.move rfl rfl ?_
    refine WL.extractL rfl rfl rfl ?_
    refine WL.extractL rfl rfl rfl ?_
    refine WL.extractL rfl rfl rfl ?_
    refine WL.assign rfl rfl ?_
    refine WL.assign rfl rfl ?_
    refine WL.assign rfl rfl ?_
    refine WL.nil ?_
    refine WX.next ?_
    refine W.sub [(1, _), (3, _), (6, _)] (.cons rfl (.cons rfl (.cons rfl .nil))) ?_
    refine W.seq ?_
    refine W.region ?_
    refine WL.move rfl rfl ?_
    refine WL.buildB (es := [_]) Try.elem5 M rfl rfl (by apply BytesOf.lit (b := 97) (by decide); exact BytesOf.nil) (by rfl) rfl rfl ?_
    intro g6_1 w M
    refine WL.convLitH (l := [97]) Try.underlying32 Try.underlying5 rfl M (by first | ((repeat (first | with_reducible exact Del.here | with_reducible apply Del.there)); done) | (repeat (first | exact Del.here | apply Del.there))) (by rfl) (by rfl) rfl ?_
    intro w M
    refine WL.call Try.call14 rfl (End2 x2 ho2 hs2 7 1 w0 w _ (M.sel (K := x2.L ++ [Asr.obj g6_1 (.cells (bs [97]).toArray 5 (1, 2))]) (by first | ((repeat (first | with_reducible exact Sel.refl | with_reducible exact Sel.nil | with_reducible exact Del.here | with_reducible apply Del.there | with_reducible apply Sel.cons | with_reducible apply Sel.drop)); done) | (repeat (first | exact Sel.refl | exact Sel.nil | exact Del.here | apply Del.there | apply Sel.cons | apply Sel.drop)))) (by omega) (by omega) _ _ [97] (by intro w M; exact (by first | first | with_reducible assumption | with_reducible exact RdB.mem (by with_reducible assumption) M | exact M.rdB (by first | ((repeat (first | with_reducible exact Has.here | with_reducible refine Has.there ?_)); done) | (repeat (first | exact Has.here | refine Has.there ?_))) | exact RdH.at (by assumption) (M.sel (by first | ((repeat (first | with_reducible exact Sel.refl | with_reducible exact Sel.nil | with_reducible exact Del.here | with_reducible apply Del.there | with_reducible apply Sel.cons | with_reducible apply Sel.drop)); done) | (repeat (first | exact Sel.refl | exact Sel.nil | exact Del.here | apply Del.there | apply Sel.cons | apply Sel.drop)))) | exact M.rdLit' (by first | ((repeat (first | with_reducible exact Has.here | with_reducible refine Has.there ?_)); done) | (repeat (first | exact Has.here | refine Has.there ?_))) | exact M.rdLent (by first | ((repeat (first | with_reducible exact Has.here | with_reducible refine Has.there ?_)); done) | (repeat (first | exact Has.here | refine Has.there ?_))) | exact RdB.nil _ _ | exact RdB.sub (by first | with_reducible assumption | with_reducible exact RdB.mem (by with_reducible assumption) M | exact M.rdB (by first | ((repeat (first | with_reducible exact Has.here | with_reducible refine Has.there ?_)); done) | (repeat (first | exact Has.here | refine Has.there ?_))) | exact RdH.at (by assumption) (M.sel (by first | ((repeat (first | with_reducible exact Sel.refl | with_reducible exact Sel.nil | with_reducible exact Del.here | with_reducible apply Del.there | with_reducible apply Sel.cons | with_reducible apply Sel.drop)); done) | (repeat (first | exact Sel.refl | exact Sel.nil | exact Del.here | apply Del.there | apply Sel.cons | apply Sel.drop)))) | exact M.rdLit' (by first | ((repeat (first | with_reducible exact Has.here | with_reducible refine Has.there ?_)); done) | (repeat (first | exact Has.here | refine Has.there ?_))) | exact M.rdLent (by first | ((repeat (first | with_reducible exact Has.here | with_reducible refine Has.there ?_)); done) | (repeat (first | exact Has.here | refine Has.there ?_))) | exact RdB.nil _ _) (by omega) (by omega) | exact RdB.pre' (by first | with_reducible assumption | with_reducible exact RdB.mem (by with_reducible assumption) M | exact M.rdB (by first | ((repeat (first | with_reducible exact Has.here | with_reducible refine Has.there ?_)); done) | (repeat (first | exact Has.here | refine Has.there ?_))) | exact RdH.at (by assumption) (M.sel (by first | ((repeat (first | with_reducible exact Sel.refl | with_reducible exact Sel.nil | with_reducible exact Del.here | with_reducible apply Del.there | with_reducible apply Sel.cons | with_reducible apply Sel.drop)); done) | (repeat (first | exact Sel.refl | exact Sel.nil | exact Del.here | apply Del.there | apply Sel.cons | apply Sel.drop)))) | exact M.rdLit' (by first | ((repeat (first | with_reducible exact Has.here | with_reducible refine Has.there ?_)); done) | (repeat (first | exact Has.here | refine Has.there ?_))) | exact M.rdLent (by first | ((repeat (first | with_reducible exact Has.here | with_reducible refine Has.there ?_)); done) | (repeat (first | exact Has.here | refine Has.there ?_))) | exact RdB.nil _ _) (by omega) | exact RdB.suf (by first | with_reducible assumption | with_reducible exact RdB.mem (by with_reducible assumption) M | exact M.rdB (by first | ((repeat (first | with_reducible exact Has.here | with_reducible refine Has.there ?_)); done) | (repeat (first | exact Has.here | refine Has.there ?_))) | exact RdH.at (by assumption) (M.sel (by first | ((repeat (first | with_reducible exact Sel.refl | with_reducible exact Sel.nil | with_reducible exact Del.here | with_reducible apply Del.there | with_reducible apply Sel.cons | with_reducible apply Sel.drop)); done) | (repeat (first | exact Sel.refl | exact Sel.nil | exact Del.here | apply Del.there | apply Sel.cons | apply Sel.drop)))) | exact M.rdLit' (by first | ((repeat (first | with_reducible exact Has.here | with_reducible refine Has.there ?_)); done) | (repeat (first | exact Has.here | refine Has.there ?_))) | exact M.rdLent (by first | ((repeat (first | with_reducible exact Has.here | with_reducible refine Has.there ?_)); done) | (repeat (first | exact Has.here | refine Has.there ?_))) | exact RdB.nil _ _) (by omega))) (e := 0) (t' := ⟨2, [⟨7, 1, false, [97]⟩], 1, 0⟩) (by decide +kernel) (by decide +kernel)) rfl ?_
    rintro _ w ⟨rfl, x3, hg3, hs3, ho3, M⟩
    rw [hg3]
    replace M := M.sel (K := x3.L ++ []) (by first | ((repeat (first | with_reducible exact Sel.refl | with_reducible exact Sel.nil | with_reducible exact Del.here | with_reducible apply Del.there | with_reducible apply Sel.cons | with_reducible apply Sel.drop)); done) | (repeat (first | exact Sel.refl | exact Sel.nil | exact Del.here | apply Del.there | apply Sel.cons | apply Sel.drop)))
    refine WL.assign rfl rfl ?_
    refine WL.nil ?_
    refine WX.next ?_
    refine W.sub [(1, _), (3, _), (6, _), (9, _)] (.cons rfl (.cons rfl (.cons rfl (.cons rfl .nil)))) ?_
    refine W.seq ?_
    refine W.region ?_
    refine WL.move rfl rfl ?_
    refine WL.call Try.call12 rfl (Begin2 x3 ho3 hs3 7 1 w0 w [] M (by dsimp only; omega) (by omega) (by omega) (a := 2) (e := 0) (R := [97]) (t' := ⟨2, [⟨7, 1, false, [97]⟩], 1, 1⟩) (by decide +kernel) (by decide +kernel) (by decide +kernel) (by decide +kernel)) rfl ?_
    rintro _ w ⟨x4, A4, k4, rfl, hg4, hs4, ho4, M⟩
    rw [hg4]
    replace M := M.sel (K := x4.L ++ [Asr.own 5 1 A4 [97].length k4 (bs [97])]) (by first | ((repeat (first | with_reducible exact Sel.refl | with_reducible exact Sel.nil | with_reducible exact Del.here | with_reducible apply Del.there | with_reducible apply Sel.cons | with_reducible apply Sel.drop)); done) | (repeat (first | exact Sel.refl | exact Sel.nil | exact Del.here | apply Del.there | apply Sel.cons | apply Sel.drop)))
    refine WL.move rfl rfl ?_
    refine WL.extractL rfl rfl rfl ?_
    refine WL.extractL rfl rfl rfl ?_
    refine WL.extractL rfl rfl rfl ?_
    refine WL.assign rfl rfl ?_
    refine WL.assign rfl rfl ?_
    refine WL.assign rfl rfl ?_
    refine WL.nil ?_
    refine WX.next ?_
    refine W.sub [(1, _), (3, _), (6, _), (9, _), (10, _), (11, _)] (.cons rfl (.cons rfl (.cons rfl (.cons rfl (.cons rfl (.cons rfl .nil)))))) ?_
    refine W.seq ?_
    refine W.region ?_
    refine WL.move rfl rfl ?_
    refine WL.call Try.call12 rfl (Begin2 x4 ho4 hs4 7 3 w0 w _ M (by dsimp only; omega) (by omega) (by omega) (a := 1) (e := 0) (R := []) (t' := ⟨2, [⟨7, 3, true, []⟩], 2, 1⟩) (by decide +kernel) (by decide +kernel) (by decide +kernel) (by decide +kernel)) rfl ?_
    rintro _ w ⟨x5, A5, k5, rfl, hg5, hs5, ho5, M⟩
    rw [hg5]
    replace M := M.tail
    refine WL.move rfl rfl ?_
    refine WL.extractL rfl rfl rfl ?_
    refine WL.extractL rfl rfl rfl ?_
    refine WL.extractL rfl rfl rfl ?_
    refine WL.assign rfl rfl ?_
    refine WL.assign rfl rfl ?_
    refine WL.assign rfl rfl ?_
    refine WL.nil ?_
    refine WX.next ?_
    refine W.sub [(1, _), (3, _), (6, _), (9, _), (10, _), (11, _), (13, _)] (.cons rfl (.cons rfl (.cons rfl (.cons rfl (.cons rfl (.cons rfl (.cons rfl .nil))))))) ?_
    refine W.seq ?_
    refine W.region ?_
    refine WL.move rfl rfl ?_
    refine WL.call Try.call12 rfl (Begin2 x5 ho5 hs5 7 2 w0 w _ M (by dsimp only; omega) (by omega) (by omega) (a := 0) (e := 70) (R := []) (t' := ⟨2, [⟨7, 3, true, []⟩], 2, 1⟩) (by decide +kernel) (by decide +kernel) (by decide +kernel) (by decide +kernel)) rfl ?_
    rintro _ w ⟨x6, A6, k6, rfl, hg6, hs6, ho6, M⟩
    rw [hg6]
    replace M := M.tail
    refine WL.move rfl rfl ?_
    refine WL.extractL rfl rfl rfl ?_
    refine WL.extractL rfl rfl rfl ?_
    refine WL.extractL rfl rfl rfl ?_
    refine WL.assign rfl rfl ?_
    refine WL.assign rfl rfl ?_
    refine WL.assign rfl rfl ?_
    refine WL.nil ?_
    refine WX.next ?_
    refine W.sub [(1, _), (3, _), (6, _), (9, _), (10, _), (11, _), (13, _), (18, _)] (.cons rfl (.cons rfl (.cons rfl (.cons rfl (.cons rfl (.cons rfl (.cons rfl (.cons rfl .nil)))))))) ?_
    refine W.seq ?_
    refine W.region ?_
    refine WL.move rfl rfl ?_
    refine WL.call Try.call12 rfl (Begin2 x6 ho6 hs6 8 1 w0 w _ M (by dsimp only; omega) (by omega) (by omega) (a := 1) (e := 0) (R := []) (t' := ⟨2, [⟨7, 3, true, []⟩, ⟨8, 1, true, []⟩], 3, 1⟩) (by decide +kernel) (by decide +kernel) (by decide +kernel) (by decide +kernel)) rfl ?_
    rintro _ w ⟨x7, A7, k7, rfl, hg7, hs7, ho7, M⟩
    rw [hg7]
    replace M := M.tail
    refine WL.nil ?_
    refine WX.next ?_
    refine W.sub [(1, _), (3, _), (6, _), (9, _), (10, _), (11, _), (13, _), (18, _)] (.cons rfl (.cons rfl (.cons rfl (.cons rfl (.cons rfl (.cons rfl (.cons rfl (.cons rfl .nil)))))))) ?_
    refine W.seq ?_
    refine W.region ?_
    refine WL.move rfl rfl ?_
    refine WL.call Try.call12 rfl (Begin2 x7 ho7 hs7 9 1 w0 w _ M (by dsimp only; omega) (by omega) (by omega) (a := 0) (e := 130) (R := []) (t' := ⟨2, [⟨7, 3, true, []⟩, ⟨8, 1, true, []⟩], 3, 1⟩) (by decide +kernel) (by decide +kernel) (by decide +kernel) (by decide +kernel)) rfl ?_
    rintro _ w ⟨x8, A8, k8, rfl, hg8, hs8, ho8, M⟩
    rw [hg8]
    replace M := M.tail
    refine WL.move rfl rfl ?_
    refine WL.extractL rfl rfl rfl ?_
    refine WL.extractL rfl rfl rfl ?_
    refine WL.extractL rfl rfl rfl ?_
    refine WL.assign rfl rfl ?_
    refine WL.assign rfl rfl ?_
    refine WL.assign rfl rfl ?_
    refine WL.nil ?_
    refine WX.next ?_
    refine W.sub [(1, _), (3, _), (6, _), (9, _), (10, _), (11, _), (13, _), (18, _), (21, _)] (.cons rfl (.cons rfl (.cons rfl (.cons rfl (.cons rfl (.cons rfl (.cons rfl (.cons rfl (.cons rfl .nil))))))))) ?_
    refine W.seq ?_
    refine W.region ?_
    refine WL.move rfl rfl ?_
    refine WL.call Try.call18 rfl (Counts2 x8 hs8 w0 w _ M) rfl ?_
    rintro _ w ⟨rfl, M⟩
    refine WL.move rfl rfl ?_
    refine WL.extractL rfl rfl rfl ?_
    refine WL.extractL rfl rfl rfl ?_
    refine WL.assign rfl rfl ?_
    refine WL.assign rfl rfl ?_
    refine WL.nil ?_
    refine WX.next ?_
    refine W.sub [(3, _), (6, _), (9, _), (10, _), (11, _), (13, _), (18, _), (21, _), (22, _), (23, _)] (.cons rfl (.cons rfl (.cons rfl (.cons rfl (.cons rfl (.cons rfl (.cons rfl (.cons rfl (.cons rfl (.cons rfl .nil)))))))))) ?_
    refine W.seq ?_
    refine W.region ?_
    refine WL.call Try.call11 rfl (onceNew_ok 2 (by omega) _) rfl ?_
    rintro _ w ⟨y0, rfl, hsy, hoy, m⟩
    replace M := M.callN m; clear m
    replace M := M.sel (K := y0.L ++ [Asr.own 5 1 A4 [97].length k4 (bs [97])]) (by first | ((repeat (first | with_reducible exact Sel.refl | with_reducible exact Sel.nil | with_reducible exact Del.here | with_reducible apply Del.there | with_reducible apply Sel.cons | with_reducible apply Sel.drop)); done) | (repeat (first | exact Sel.refl | exact Sel.nil | exact Del.here | apply Del.there | apply Sel.cons | apply Sel.drop)))
    refine WL.move rfl rfl ?_
    refine WL.extractL rfl rfl rfl ?_
    refine WL.extractL rfl rfl rfl ?_
    refine WL.assign rfl rfl ?_
    refine WL.assign rfl rfl ?_
    refine WL.nil ?_
    refine WX.next ?_
    refine W.sub [(3, _), (6, _), (9, _), (10, _), (11, _), (13, _), (18, _), (21, _), (22, _), (23, _), (24, _)] (.cons rfl (.cons rfl (.cons rfl (.cons rfl (.cons rfl (.cons rfl (.cons rfl (.cons rfl (.cons rfl (.cons rfl (.cons rfl .nil))))))))))) ?_
    refine W.seq ?_
    refine W.region ?_
    refine WL.move rfl rfl ?_
    refine WL.eqI rfl rfl rfl ?_
    refine WL.moveIf rfl rfl (fun c2 => ?_) (fun c2 => ?_)
    · refine WL.on rfl rfl ?_
      refine WL.move rfl rfl ?_
      refine WL.on rfl rfl ?_
      refine WL.eqI rfl rfl rfl ?_
      refine WL.pickT rfl rfl rfl ?_
      refine WL.moveIf rfl rfl (fun c3 => ?_) (fun c3 => ?_)
      · refine WL.on rfl rfl ?_
        refine WL.move rfl rfl ?_
        refine WL.on rfl rfl ?_
        refine WL.eqI rfl rfl rfl ?_
        refine WL.pickT rfl rfl rfl ?_
        refine WL.moveIf rfl rfl (fun c4 => ?_) (fun c4 => ?_)
        · refine WL.on rfl rfl ?_
          refine WL.move rfl rfl ?_
          refine WL.on rfl rfl ?_
          refine WL.eqI rfl rfl rfl ?_
          refine WL.pickT rfl rfl rfl ?_
          refine WL.moveIf rfl rfl (fun c5 => ?_) (fun c5 => ?_)
          · refine WL.on rfl rfl ?_
            refine WL.move rfl rfl ?_
            refine WL.on rfl rfl ?_
            refine WL.toStr Try.underlying32 Try.underlying5 Try.underlying9 rfl (by first | first | with_reducible assumption | with_reducible exact RdB.mem (by with_reducible assumption) M | exact M.rdB (by first | ((repeat (first | with_reducible exact Has.here | with_reducible refine Has.there ?_)); done) | (repeat (first | exact Has.here | refine Has.there ?_))) | exact RdH.at (by assumption) (M.sel (by first | ((repeat (first | with_reducible exact Sel.refl | with_reducible exact Sel.nil | with_reducible exact Del.here | with_reducible apply Del.there | with_reducible apply Sel.cons | with_reducible apply Sel.drop)); done) | (repeat (first | exact Sel.refl | exact Sel.nil | exact Del.here | apply Del.there | apply Sel.cons | apply Sel.drop)))) | exact M.rdLit' (by first | ((repeat (first | with_reducible exact Has.here | with_reducible refine Has.there ?_)); done) | (repeat (first | exact Has.here | refine Has.there ?_))) | exact M.rdLent (by first | ((repeat (first | with_reducible exact Has.here | with_reducible refine Has.there ?_)); done) | (repeat (first | exact Has.here | refine Has.there ?_))) | exact RdB.nil _ _ | exact RdB.sub (by first | with_reducible assumption | with_reducible exact RdB.mem (by with_reducible assumption) M | exact M.rdB (by first | ((repeat (first | with_reducible exact Has.here | with_reducible refine Has.there ?_)); done) | (repeat (first | exact Has.here | refine Has.there ?_))) | exact RdH.at (by assumption) (M.sel (by first | ((repeat (first | with_reducible exact Sel.refl | with_reducible exact Sel.nil | with_reducible exact Del.here | with_reducible apply Del.there | with_reducible apply Sel.cons | with_reducible apply Sel.drop)); done) | (repeat (first | exact Sel.refl | exact Sel.nil | exact Del.here | apply Del.there | apply Sel.cons | apply Sel.drop)))) | exact M.rdLit' (by first | ((repeat (first | with_reducible exact Has.here | with_reducible refine Has.there ?_)); done) | (repeat (first | exact Has.here | refine Has.there ?_))) | exact M.rdLent (by first | ((repeat (first | with_reducible exact Has.here | with_reducible refine Has.there ?_)); done) | (repeat (first | exact Has.here | refine Has.there ?_))) | exact RdB.nil _ _) (by omega) (by omega) | exact RdB.pre' (by first | with_reducible assumption | with_reducible exact RdB.mem (by with_reducible assumption) M | exact M.rdB (by first | ((repeat (first | with_reducible exact Has.here | with_reducible refine Has.there ?_)); done) | (repeat (first | exact Has.here | refine Has.there ?_))) | exact RdH.at (by assumption) (M.sel (by first | ((repeat (first | with_reducible exact Sel.refl | with_reducible exact Sel.nil | with_reducible exact Del.here | with_reducible apply Del.there | with_reducible apply Sel.cons | with_reducible apply Sel.drop)); done) | (repeat (first | exact Sel.refl | exact Sel.nil | exact Del.here | apply Del.there | apply Sel.cons | apply Sel.drop)))) | exact M.rdLit' (by first | ((repeat (first | with_reducible exact Has.here | with_reducible refine Has.there ?_)); done) | (repeat (first | exact Has.here | refine Has.there ?_))) | exact M.rdLent (by first | ((repeat (first | with_reducible exact Has.here | with_reducible refine Has.there ?_)); done) | (repeat (first | exact Has.here | refine Has.there ?_))) | exact RdB.nil _ _) (by omega) | exact RdB.suf (by first | with_reducible assumption | with_reducible exact RdB.mem (by with_reducible assumption) M | exact M.rdB (by first | ((repeat (first | with_reducible exact Has.here | with_reducible refine Has.there ?_)); done) | (repeat (first | exact Has.here | refine Has.there ?_))) | exact RdH.at (by assumption) (M.sel (by first | ((repeat (first | with_reducible exact Sel.refl | with_reducible exact Sel.nil | with_reducible exact Del.here | with_reducible apply Del.there | with_reducible apply Sel.cons | with_reducible apply Sel.drop)); done) | (repeat (first | exact Sel.refl | exact Sel.nil | exact Del.here | apply Del.there | apply Sel.cons | apply Sel.drop)))) | exact M.rdLit' (by first | ((repeat (first | with_reducible exact Has.here | with_reducible refine Has.there ?_)); done) | (repeat (first | exact Has.here | refine Has.there ?_))) | exact M.rdLent (by first | ((repeat (first | with_reducible exact Has.here | with_reducible refine Has.there ?_)); done) | (repeat (first | exact Has.here | refine Has.there ?_))) | exact RdB.nil _ _) (by omega)) rfl rfl ?_
            refine WL.on rfl rfl ?_
            refine WL.eqS rfl rfl rfl ?_
            refine WL.pickT rfl rfl rfl ?_
            refine WL.moveIf rfl rfl (fun c6 => ?_) (fun c6 => ?_)
            · refine WL.on rfl rfl ?_
              refine WL.move rfl rfl ?_
              refine WL.on rfl rfl ?_
              refine WL.eqI rfl rfl rfl ?_
              refine WL.pickT rfl rfl rfl ?_
              refine WL.moveIf rfl rfl (fun c7 => ?_) (fun c7 => ?_)
              · refine WL.on rfl rfl ?_
                refine WL.move rfl rfl ?_
                refine WL.on rfl rfl ?_
                refine WL.eqI rfl rfl rfl ?_
                refine WL.pickT rfl rfl rfl ?_
                refine WL.moveIf rfl rfl (fun c8 => ?_) (fun c8 => ?_)
                · refine WL.on rfl rfl ?_
                  refine WL.move rfl rfl ?_
                  refine WL.on rfl rfl ?_
                  refine WL.eqI rfl rfl rfl ?_
                  refine WL.pickT rfl rfl rfl ?_
                  refine WL.moveIf rfl rfl (fun c9 => ?_) (fun c9 => ?_)
                  · refine WL.on rfl rfl ?_
                    refine WL.move rfl rfl ?_
                    refine WL.on rfl rfl ?_
                    refine WL.eqI rfl rfl rfl ?_
                    refine WL.pickT rfl rfl rfl ?_
                    refine WL.moveIf rfl rfl (fun c10 => ?_) (fun c10 => ?_)
                    · refine WL.on rfl rfl ?_
                      refine WL.move rfl rfl ?_
                      refine WL.on rfl rfl ?_
                      refine WL.eqI rfl rfl rfl ?_
                      refine WL.pickT rfl rfl rfl ?_
                      refine WL.moveIf rfl rfl (fun c11 => ?_) (fun c11 => ?_)
                      · refine WL.on rfl rfl ?_
                        refine WL.move rfl rfl ?_
                        refine WL.on rfl rfl ?_
                        refine WL.call Try.call19 rfl (Save2 y0 hoy hsy w0 w _ M (B := [2, 0]) (by decide +kernel)) rfl ?_
                        rintro _ w ⟨A9, k9, rfl, M⟩
                        refine WL.on rfl rfl ?_
                        refine WL.toStr Try.underlying32 Try.underlying5 Try.underlying9 rfl (by first | first | with_reducible assumption | with_reducible exact RdB.mem (by with_reducible assumption) M | exact M.rdB (by first | ((repeat (first | with_reducible exact Has.here | with_reducible refine Has.there ?_)); done) | (repeat (first | exact Has.here | refine Has.there ?_))) | exact RdH.at (by assumption) (M.sel (by first | ((repeat (first | with_reducible exact Sel.refl | with_reducible exact Sel.nil | with_reducible exact Del.here | with_reducible apply Del.there | with_reducible apply Sel.cons | with_reducible apply Sel.drop)); done) | (repeat (first | exact Sel.refl | exact Sel.nil | exact Del.here | apply Del.there | apply Sel.cons | apply Sel.drop)))) | exact M.rdLit' (by first | ((repeat (first | with_reducible exact Has.here | with_reducible refine Has.there ?_)); done) | (repeat (first | exact Has.here | refine Has.there ?_))) | exact M.rdLent (by first | ((repeat (first | with_reducible exact Has.here | with_reducible refine Has.there ?_)); done) | (repeat (first | exact Has.here | refine Has.there ?_))) | exact RdB.nil _ _ | exact RdB.sub (by first | with_reducible assumption | with_reducible exact RdB.mem (by with_reducible assumption) M | exact M.rdB (by first | ((repeat (first | with_reducible exact Has.here | with_reducible refine Has.there ?_)); done) | (repeat (first | exact Has.here | refine Has.there ?_))) | exact RdH.at (by assumption) (M.sel (by first | ((repeat (first | with_reducible exact Sel.refl | with_reducible exact Sel.nil | with_reducible exact Del.here | with_reducible apply Del.there | with_reducible apply Sel.cons | with_reducible apply Sel.drop)); done) | (repeat (first | exact Sel.refl | exact Sel.nil | exact Del.here | apply Del.there | apply Sel.cons | apply Sel.drop)))) | exact M.rdLit' (by first | ((repeat (first | with_reducible exact Has.here | with_reducible refine Has.there ?_)); done) | (repeat (first | exact Has.here | refine Has.there ?_))) | exact M.rdLent (by first | ((repeat (first | with_reducible exact Has.here | with_reducible refine Has.there ?_)); done) | (repeat (first | exact Has.here | refine Has.there ?_))) | exact RdB.nil _ _) (by omega) (by omega) | exact RdB.pre' (by first | with_reducible assumption | with_reducible exact RdB.mem (by with_reducible assumption) M | exact M.rdB (by first | ((repeat (first | with_reducible exact Has.here | with_reducible refine Has.there ?_)); done) | (repeat (first | exact Has.here | refine Has.there ?_))) | exact RdH.at (by assumption) (M.sel (by first | ((repeat (first | with_reducible exact Sel.refl | with_reducible exact Sel.nil | with_reducible exact Del.here | with_reducible apply Del.there | with_reducible apply Sel.cons | with_reducible apply Sel.drop)); done) | (repeat (first | exact Sel.refl | exact Sel.nil | exact Del.here | apply Del.there | apply Sel.cons | apply Sel.drop)))) | exact M.rdLit' (by first | ((repeat (first | with_reducible exact Has.here | with_reducible refine Has.there ?_)); done) | (repeat (first | exact Has.here | refine Has.there ?_))) | exact M.rdLent (by first | ((repeat (first | with_reducible exact Has.here | with_reducible refine Has.there ?_)); done) | (repeat (first | exact Has.here | refine Has.there ?_))) | exact RdB.nil _ _) (by omega) | exact RdB.suf (by first | with_reducible assumption | with_reducible exact RdB.mem (by with_reducible assumption) M | exact M.rdB (by first | ((repeat (first | with_reducible exact Has.here | with_reducible refine Has.there ?_)); done) | (repeat (first | exact Has.here | refine Has.there ?_))) | exact RdH.at (by assumption) (M.sel (by first | ((repeat (first | with_reducible exact Sel.refl | with_reducible exact Sel.nil | with_reducible exact Del.here | with_reducible apply Del.there | with_reducible apply Sel.cons | with_reducible apply Sel.drop)); done) | (repeat (first | exact Sel.refl | exact Sel.nil | exact Del.here | apply Del.there | apply Sel.cons | apply Sel.drop)))) | exact M.rdLit' (by first | ((repeat (first | with_reducible exact Has.here | with_reducible refine Has.there ?_)); done) | (repeat (first | exact Has.here | refine Has.there ?_))) | exact M.rdLent (by first | ((repeat (first | with_reducible exact Has.here | with_reducible refine Has.there ?_)); done) | (repeat (first | exact Has.here | refine Has.there ?_))) | exact RdB.nil _ _) (by omega)) rfl rfl ?_
                        refine WL.on rfl rfl ?_
                        refine WL.eqS rfl rfl rfl ?_
                        refine WL.pickT rfl rfl rfl ?_
                        refine WL.assign rfl rfl ?_
                        refine WL.nil ?_
                        refine WX.next ?_
                        refine W.sub [(0, _)] (.cons rfl .nil) ?_
                        refine W.ret ?_
                        refine WX.ret1 rfl rfl ?_
                        exact ⟨rfl, M.sel (by first | ((repeat (first | with_reducible exact Sel.refl | with_reducible exact Sel.nil | with_reducible exact Del.here | with_reducible apply Del.there | with_reducible apply Sel.cons | with_reducible apply Sel.drop)); done) | (repeat (first | exact Sel.refl | exact Sel.nil | exact Del.here | apply Del.there | apply Sel.cons | apply Sel.drop)))⟩
                      · exact absurd rfl c11
                    · exact absurd rfl c10
                  · exact absurd rfl c9
                · exact absurd rfl c8
              · exact absurd rfl c7
            · exact absurd rfl c6
          · exact absurd rfl c5
        · exact absurd rfl c4
      · exact absurd rfl c3
    · exact absurd rfl c2
end Go.Proofs.Ytmogpoghngmnmaa
