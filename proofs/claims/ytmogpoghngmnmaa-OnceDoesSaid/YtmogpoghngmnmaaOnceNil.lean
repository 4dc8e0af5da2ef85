/-
  Walk: a table that is not there; what is told of clients is its owner's (seawalllaw13.OnceNil).
-/
import Derived.Test.YtmogpoghngmnmaaOnceIn
import Derived.Test.YtmogpoghngmnmaaLists
import Derived.Test.YtmogpoghngmnmaaOwnAll2
namespace Go.Proofs.Ytmogpoghngmnmaa
open Go Go.RowKit Bin

theorem posN_one (c : Cl) : posN [c] c.id = 0 := by simp [posN, List.findIdx_cons]
theorem one_new (id : Nat) : begA ⟨1, [], 0, 0⟩ id 5 = 1 ∧ begE ⟨1, [], 0, 0⟩ id 5 = 0 ∧ begR ⟨1, [], 0, 0⟩ id 5 = [] ∧ begS ⟨1, [], 0, 0⟩ id 5 = ⟨1, [⟨id, 5, true, []⟩], 1, 0⟩ := by
  have hk : begK ⟨1, [], 0, 0⟩ id 5 = 5 := begK_5 (by decide) (by simp) (by simp)
  refine ⟨by unfold begA; rw [hk]; rfl, by unfold begE; rw [hk]; rfl, by unfold begR; rw [hk]; rfl, ?_⟩
  unfold begS
  rw [hk]
  rfl
theorem one_end (id : Nat) (rep : List UInt8) (h : rep.length ≤ 200) : endE ⟨1, [⟨id, 5, true, []⟩], 1, 0⟩ id 5 rep = 0 ∧ endS ⟨1, [⟨id, 5, true, []⟩], 1, 0⟩ id 5 rep = ⟨1, [⟨id, 5, false, rep⟩], 1, 0⟩ := by
  have hp : posN [⟨id, 5, true, []⟩] id = 0 := posN_one ⟨id, 5, true, []⟩
  have he : endE ⟨1, [⟨id, 5, true, []⟩], 1, 0⟩ id 5 rep = 0 := by
    have hy : endOk ⟨1, [⟨id, 5, true, []⟩], 1, 0⟩ id 5 := by
      unfold endOk
      dsimp only
      rw [hp]
      exact ⟨by simp, rfl, rfl⟩
    unfold endE
    rw [if_neg (by omega), if_pos hy]
  refine ⟨he, ?_⟩
  unfold endS
  rw [if_pos he]
  dsimp only
  rw [hp]
  rfl
theorem one_again (id k : Nat) (rep : List UInt8) : begA ⟨1, [⟨id, 5, false, rep⟩], 1, k⟩ id 5 = 2 ∧ begE ⟨1, [⟨id, 5, false, rep⟩], 1, k⟩ id 5 = 0 ∧ begR ⟨1, [⟨id, 5, false, rep⟩], 1, k⟩ id 5 = rep ∧ begS ⟨1, [⟨id, 5, false, rep⟩], 1, k⟩ id 5 = ⟨1, [⟨id, 5, false, rep⟩], 1, k + 1⟩ := by
  have hp : posN [⟨id, 5, false, rep⟩] id = 0 := posN_one ⟨id, 5, false, rep⟩
  have hk : begK ⟨1, [⟨id, 5, false, rep⟩], 1, k⟩ id 5 = 3 := begK_3 (by decide) (by dsimp only; rw [hp]; simp) (by dsimp only; rw [hp]; rfl) (by dsimp only; rw [hp]; rfl)
  refine ⟨by unfold begA; rw [hk]; rfl, by unfold begE; rw [hk]; rfl, ?_, ?_⟩
  · unfold begR
    rw [hk]
    dsimp only
    rw [hp]
    rfl
  · unfold begS
    rw [hk]
    dsimp only
    rw [hp]
    rfl
section
variable (x : OT) (hok : x.ok) {t : Tb} (hs : x.s = t) (w0 w : World) (L : List Asr) (M : Mem w0 w (x.L ++ L))
include hok hs M
theorem Clients2 : Fn Try.prog 15 [.pointer (some ⟨x.g, 0, none⟩)] w fun v w' => ∃ (A' : Option Addr) (cap' : Nat) (ds : List ClX), v = .slice A' ds.length cap' ∧ ds.map ClX.key = t.l ∧
    Mem w0 w' (Asr.lst clientE A' cap' ds :: Asr.star (ds.map ClX.O) :: (x.L ++ L)) := by
  subst hs
  exact Clients_ok x hok w0 w L M
end
theorem one_of {ds : List ClX} {c : Cl} (h : ds.map ClX.key = [c]) : ∃ d : ClX, ds = [d] ∧ d.rep = c.rep := by
  match ds, h with
  | [d], h =>
    have : d.key = c := by simpa using h
    exact ⟨d, rfl, by rw [← this]; rfl⟩
def ClX.ox (c : ClX) : OX := ⟨c.A, c.cap, c.rep⟩

set_option maxRecDepth 10000 in
set_option maxHeartbeats 2000000 in
theorem OnceNil_ok (c : AcX) (w0 : World) (hc : c.inn w0) : Fn Try.prog 5 [c.v] w0 fun v w' => v = .bool true ∧ Mem w0 w' [] := by
  have M := Mem.refl w0
  obtain ⟨w, hw⟩ : ∃ w, w = w0 := ⟨w0, rfl⟩
  obtain ⟨kind, id, num, A, cap, rep⟩ := c
  obtain ⟨_, hid, hnum, hrd⟩ := hc
  dsimp only at hid hnum hrd
  unfold AcX.v
  refine Fn.enter Try.func5 rfl Try.ntmps5 rfl ?_
  refine W.sub [(0, _)] (.cons rfl .nil) ?_
  refine W.seq ?_
  refine W.region ?_
  refine WL.box rfl M rfl ?_
  intro g0_0 w M
  try simp only [Value.cells] at M
  try simp only [List.toList_toArray] at M
  refine WL.assign rfl rfl ?_
  refine WL.nil ?_
  refine WX.next ?_
  refine W.sub [(1, _)] (.cons rfl .nil) ?_
  refine W.seq ?_
  refine W.seq ?_
  refine W.region ?_
  refine WL.fieldR (off := 3) Try.underlying35 rfl rfl Try.sizeOf32 rfl rfl rfl ?_
  refine WL.loadR Try.isAgg32 rfl M (by first | ((repeat (first | with_reducible exact Has.here | with_reducible refine Has.there ?_)); done) | (repeat (first | exact Has.here | refine Has.there ?_))) rfl rfl ?_
  refine WL.len Try.underlying32 rfl rfl ?_
  refine WL.gtr rfl rfl rfl ?_
  refine WL.nil ?_
  refine WX.next ?_
  refine W.sub [(1, _), (27, _)] (.cons rfl (.cons rfl .nil)) ?_
  refine W.ite rfl (fun c0 => ?_) (fun c0 => ?_)
  · refine W.seq ?_
    refine W.region ?_
    refine WL.call Try.call10 rfl (known13_ok _) rfl ?_
    rintro _ w ⟨rfl, m⟩
    replace M := M.call0 m; clear m
    refine WL.assign rfl rfl ?_
    refine WL.nil ?_
    refine WX.next ?_
    refine W.sub [(2, _)] (.cons rfl .nil) ?_
    refine W.ret ?_
    refine WX.thenRet ?_
    refine WX.ret1 rfl rfl ?_
    exact ⟨rfl, M.sel (by first | ((repeat (first | with_reducible exact Sel.refl | with_reducible exact Sel.nil | with_reducible exact Del.here | with_reducible apply Del.there | with_reducible apply Sel.cons | with_reducible apply Sel.drop)); done) | (repeat (first | exact Sel.refl | exact Sel.nil | exact Del.here | apply Del.there | apply Sel.cons | apply Sel.drop)))⟩
  · refine W.skip ?_
    refine WX.next ?_
    refine W.seq ?_
    refine W.region ?_
    refine WL.assign rfl rfl ?_
    refine WL.nil ?_
    refine WX.next ?_
    refine W.sub [(1, _), (3, _)] (.cons rfl (.cons rfl .nil)) ?_
    refine W.seq ?_
    refine W.region ?_
    refine WL.move rfl rfl ?_
    refine WL.fieldR (off := 1) Try.underlying35 rfl rfl Try.sizeOf29 rfl rfl rfl ?_
    refine WL.loadR Try.isAgg29 rfl M (by first | ((repeat (first | with_reducible exact Has.here | with_reducible refine Has.there ?_)); done) | (repeat (first | exact Has.here | refine Has.there ?_))) rfl rfl ?_
    refine WL.fieldR (off := 2) Try.underlying35 rfl rfl Try.sizeOf29 rfl rfl rfl ?_
    refine WL.loadR Try.isAgg29 rfl M (by first | ((repeat (first | with_reducible exact Has.here | with_reducible refine Has.there ?_)); done) | (repeat (first | exact Has.here | refine Has.there ?_))) rfl rfl ?_
    refine WL.call Try.call12 rfl (nilBegin_ok _ _ _) rfl ?_
    rintro _ _ ⟨rfl, rfl⟩
    refine WL.move rfl rfl ?_
    refine WL.extractL rfl rfl rfl ?_
    refine WL.extractL rfl rfl rfl ?_
    refine WL.extractL rfl rfl rfl ?_
    refine WL.assign rfl rfl ?_
    refine WL.assign rfl rfl ?_
    refine WL.assign rfl rfl ?_
    refine WL.nil ?_
    refine WX.next ?_
    refine W.sub [(1, _), (3, _), (4, _), (5, _), (6, _)] (.cons rfl (.cons rfl (.cons rfl (.cons rfl (.cons rfl .nil))))) ?_
    refine W.seq ?_
    refine W.region ?_
    refine WL.move rfl rfl ?_
    refine WL.call Try.call18 rfl (nilCounts_ok _) rfl ?_
    rintro _ _ ⟨rfl, rfl⟩
    refine WL.move rfl rfl ?_
    refine WL.extractL rfl rfl rfl ?_
    refine WL.extractL rfl rfl rfl ?_
    refine WL.assign rfl rfl ?_
    refine WL.assign rfl rfl ?_
    refine WL.nil ?_
    refine WX.next ?_
    refine W.sub [(1, _), (3, _), (4, _), (5, _), (6, _), (7, _), (8, _)] (.cons rfl (.cons rfl (.cons rfl (.cons rfl (.cons rfl (.cons rfl (.cons rfl .nil))))))) ?_
    refine W.seq ?_
    refine W.region ?_
    refine WL.move rfl rfl ?_
    refine WL.eqI rfl rfl rfl ?_
    refine WL.moveIf rfl rfl (fun c1 => ?_) (fun c1 => ?_)
    · refine WL.on rfl rfl ?_
      refine WL.move rfl rfl ?_
      refine WL.on rfl rfl ?_
      refine WL.len Try.underlying32 rfl rfl ?_
      refine WL.on rfl rfl ?_
      refine WL.eqI rfl rfl rfl ?_
      refine WL.pickT rfl rfl rfl ?_
      refine WL.moveIf rfl rfl (fun c2 => ?_) (fun c2 => ?_)
      · refine WL.on rfl rfl ?_
        refine WL.move rfl rfl ?_
        refine WL.on rfl rfl ?_
        refine WL.eqI rfl rfl rfl ?_
        refine WL.pickT rfl rfl rfl ?_
        refine WL.moveIf rfl rfl (fun c3 => ?_) (fun c3 => ?_)
        · refine WL.on rfl rfl ?_
          refine WL.move rfl rfl ?_
          refine WL.on rfl rfl ?_
          refine WL.fieldR (off := 1) Try.underlying35 rfl rfl Try.sizeOf29 rfl rfl rfl ?_
          refine WL.on rfl rfl ?_
          refine WL.loadR Try.isAgg29 rfl M (by first | ((repeat (first | with_reducible exact Has.here | with_reducible refine Has.there ?_)); done) | (repeat (first | exact Has.here | refine Has.there ?_))) rfl rfl ?_
          refine WL.on rfl rfl ?_
          refine WL.fieldR (off := 2) Try.underlying35 rfl rfl Try.sizeOf29 rfl rfl rfl ?_
          refine WL.on rfl rfl ?_
          refine WL.loadR Try.isAgg29 rfl M (by first | ((repeat (first | with_reducible exact Has.here | with_reducible refine Has.there ?_)); done) | (repeat (first | exact Has.here | refine Has.there ?_))) rfl rfl ?_
          refine WL.on rfl rfl ?_
          refine WL.fieldR (off := 3) Try.underlying35 rfl rfl Try.sizeOf32 rfl rfl rfl ?_
          refine WL.on rfl rfl ?_
          refine WL.loadR Try.isAgg32 rfl M (by first | ((repeat (first | with_reducible exact Has.here | with_reducible refine Has.there ?_)); done) | (repeat (first | exact Has.here | refine Has.there ?_))) rfl rfl ?_
          refine WL.on rfl rfl ?_
          refine WL.call Try.call14 rfl (nilEnd_ok _ _ _ _) rfl ?_
          rintro _ _ ⟨rfl, rfl⟩
          refine WL.on rfl rfl ?_
          refine WL.eqI rfl rfl rfl ?_
          refine WL.pickT rfl rfl rfl ?_
          refine WL.moveIf rfl rfl (fun c4 => ?_) (fun c4 => ?_)
          · refine WL.on rfl rfl ?_
            refine WL.move rfl rfl ?_
            refine WL.on rfl rfl ?_
            refine WL.call Try.call15 rfl (nilClients_ok _) rfl ?_
            rintro _ _ ⟨rfl, rfl⟩
            refine WL.on rfl rfl ?_
            refine WL.len Try.underlying41 rfl rfl ?_
            refine WL.on rfl rfl ?_
            refine WL.eqI rfl rfl rfl ?_
            refine WL.pickT rfl rfl rfl ?_
            refine WL.moveIf rfl rfl (fun c5 => ?_) (fun c5 => ?_)
            · refine WL.on rfl rfl ?_
              refine WL.move rfl rfl ?_
              refine WL.on rfl rfl ?_
              refine WL.eqI rfl rfl rfl ?_
              refine WL.pickT rfl rfl rfl ?_
              refine WL.moveIf rfl rfl (fun c6 => ?_) (fun c6 => ?_)
              · refine WL.on rfl rfl ?_
                refine WL.move rfl rfl ?_
                refine WL.on rfl rfl ?_
                refine WL.eqI rfl rfl rfl ?_
                refine WL.pickT rfl rfl rfl ?_
                refine WL.moveIf rfl rfl (fun c7 => ?_) (fun c7 => ?_)
                · refine WL.on rfl rfl ?_
                  refine WL.move rfl rfl ?_
                  refine WL.on rfl rfl ?_
                  refine WL.call Try.call19 rfl (nilSave_ok _) rfl ?_
                  rintro _ _ ⟨rfl, rfl⟩
                  refine WL.on rfl rfl ?_
                  refine WL.len Try.underlying32 rfl rfl ?_
                  refine WL.on rfl rfl ?_
                  refine WL.eqI rfl rfl rfl ?_
                  refine WL.pickT rfl rfl rfl ?_
                  refine WL.assign rfl rfl ?_
                  refine WL.nil ?_
                  refine WX.next ?_
                  refine W.sub [(1, _), (9, _)] (.cons rfl (.cons rfl .nil)) ?_
                  refine W.seq ?_
                  refine W.region ?_
                  refine WL.call Try.call11 rfl (onceNew_ok 1 (by omega) _) rfl ?_
                  rintro _ w ⟨x0, rfl, hs0, ho0, m⟩
                  replace M := M.callN m; clear m
                  refine WL.move rfl rfl ?_
                  refine WL.extractL rfl rfl rfl ?_
                  refine WL.extractL rfl rfl rfl ?_
                  refine WL.assign rfl rfl ?_
                  refine WL.assign rfl rfl ?_
                  refine WL.nil ?_
                  refine WX.next ?_
                  refine W.sub [(1, _), (9, _), (10, _), (11, _)] (.cons rfl (.cons rfl (.cons rfl (.cons rfl .nil)))) ?_
                  refine W.seq ?_
                  refine W.seq ?_
                  refine W.region ?_
                  refine WL.move rfl rfl ?_
                  refine WL.neI rfl rfl rfl ?_
                  refine WL.moveIf rfl rfl (fun c8 => ?_) (fun c8 => ?_)
                  · exact absurd rfl c8
                  · refine WL.on rfl rfl ?_
                    refine WL.move rfl rfl ?_
                    refine WL.on rfl rfl ?_
                    refine WL.eqNilF Try.underlying25 rfl rfl rfl ?_
                    refine WL.pickF rfl rfl rfl ?_
                    refine WL.nil ?_
                    refine WX.next ?_
                    refine W.sub [(1, _), (9, _), (10, _), (95, _)] (.cons rfl (.cons rfl (.cons rfl (.cons rfl .nil)))) ?_
                    refine W.condF rfl ?_
                    refine W.skip ?_
                    refine WX.next ?_
                    refine W.seq ?_
                    refine W.region ?_
                    refine WL.move rfl rfl ?_
                    refine WL.fieldR (off := 1) Try.underlying35 rfl rfl Try.sizeOf29 rfl rfl rfl ?_
                    refine WL.loadR Try.isAgg29 rfl M (by first | ((repeat (first | with_reducible exact Has.here | with_reducible refine Has.there ?_)); done) | (repeat (first | exact Has.here | refine Has.there ?_))) rfl rfl ?_
                    refine WL.call Try.call12 rfl (Begin2 x0 ho0 hs0 id 5 w0 w _ M (by dsimp only; omega) hid (by omega) (one_new id).1 (one_new id).2.1 (one_new id).2.2.1 (one_new id).2.2.2) rfl ?_
                    rintro _ w ⟨x1, A1, k1, rfl, hg1, hs1, ho1, M⟩
                    rw [hg1]
                    replace M := M.tail
                    refine WL.nil ?_
                    refine WX.next ?_
                    refine W.sub [(1, _), (9, _), (10, _)] (.cons rfl (.cons rfl (.cons rfl .nil))) ?_
                    refine W.seq ?_
                    refine W.region ?_
                    refine WL.move rfl rfl ?_
                    refine WL.fieldR (off := 1) Try.underlying35 rfl rfl Try.sizeOf29 rfl rfl rfl ?_
                    refine WL.loadR Try.isAgg29 rfl M (by first | ((repeat (first | with_reducible exact Has.here | with_reducible refine Has.there ?_)); done) | (repeat (first | exact Has.here | refine Has.there ?_))) rfl rfl ?_
                    refine WL.fieldR (off := 3) Try.underlying35 rfl rfl Try.sizeOf32 rfl rfl rfl ?_
                    refine WL.loadR Try.isAgg32 rfl M (by first | ((repeat (first | with_reducible exact Has.here | with_reducible refine Has.there ?_)); done) | (repeat (first | exact Has.here | refine Has.there ?_))) rfl rfl ?_
                    refine WL.call Try.call14 rfl (End2 x1 ho1 hs1 id 5 w0 w _ M hid (by omega) _ _ rep (by intro w M; exact (by first | first | with_reducible assumption | with_reducible exact RdB.mem (by with_reducible assumption) M | exact M.rdB (by first | ((repeat (first | with_reducible exact Has.here | with_reducible refine Has.there ?_)); done) | (repeat (first | exact Has.here | refine Has.there ?_))) | exact RdH.at (by assumption) (M.sel (by first | ((repeat (first | with_reducible exact Sel.refl | with_reducible exact Sel.nil | with_reducible exact Del.here | with_reducible apply Del.there | with_reducible apply Sel.cons | with_reducible apply Sel.drop)); done) | (repeat (first | exact Sel.refl | exact Sel.nil | exact Del.here | apply Del.there | apply Sel.cons | apply Sel.drop)))) | exact M.rdLit' (by first | ((repeat (first | with_reducible exact Has.here | with_reducible refine Has.there ?_)); done) | (repeat (first | exact Has.here | refine Has.there ?_))) | exact M.rdLent (by first | ((repeat (first | with_reducible exact Has.here | with_reducible refine Has.there ?_)); done) | (repeat (first | exact Has.here | refine Has.there ?_))) | exact RdB.nil _ _ | exact RdB.sub (by first | with_reducible assumption | with_reducible exact RdB.mem (by with_reducible assumption) M | exact M.rdB (by first | ((repeat (first | with_reducible exact Has.here | with_reducible refine Has.there ?_)); done) | (repeat (first | exact Has.here | refine Has.there ?_))) | exact RdH.at (by assumption) (M.sel (by first | ((repeat (first | with_reducible exact Sel.refl | with_reducible exact Sel.nil | with_reducible exact Del.here | with_reducible apply Del.there | with_reducible apply Sel.cons | with_reducible apply Sel.drop)); done) | (repeat (first | exact Sel.refl | exact Sel.nil | exact Del.here | apply Del.there | apply Sel.cons | apply Sel.drop)))) | exact M.rdLit' (by first | ((repeat (first | with_reducible exact Has.here | with_reducible refine Has.there ?_)); done) | (repeat (first | exact Has.here | refine Has.there ?_))) | exact M.rdLent (by first | ((repeat (first | with_reducible exact Has.here | with_reducible refine Has.there ?_)); done) | (repeat (first | exact Has.here | refine Has.there ?_))) | exact RdB.nil _ _) (by omega) (by omega) | exact RdB.pre' (by first | with_reducible assumption | with_reducible exact RdB.mem (by with_reducible assumption) M | exact M.rdB (by first | ((repeat (first | with_reducible exact Has.here | with_reducible refine Has.there ?_)); done) | (repeat (first | exact Has.here | refine Has.there ?_))) | exact RdH.at (by assumption) (M.sel (by first | ((repeat (first | with_reducible exact Sel.refl | with_reducible exact Sel.nil | with_reducible exact Del.here | with_reducible apply Del.there | with_reducible apply Sel.cons | with_reducible apply Sel.drop)); done) | (repeat (first | exact Sel.refl | exact Sel.nil | exact Del.here | apply Del.there | apply Sel.cons | apply Sel.drop)))) | exact M.rdLit' (by first | ((repeat (first | with_reducible exact Has.here | with_reducible refine Has.there ?_)); done) | (repeat (first | exact Has.here | refine Has.there ?_))) | exact M.rdLent (by first | ((repeat (first | with_reducible exact Has.here | with_reducible refine Has.there ?_)); done) | (repeat (first | exact Has.here | refine Has.there ?_))) | exact RdB.nil _ _) (by omega) | exact RdB.suf (by first | with_reducible assumption | with_reducible exact RdB.mem (by with_reducible assumption) M | exact M.rdB (by first | ((repeat (first | with_reducible exact Has.here | with_reducible refine Has.there ?_)); done) | (repeat (first | exact Has.here | refine Has.there ?_))) | exact RdH.at (by assumption) (M.sel (by first | ((repeat (first | with_reducible exact Sel.refl | with_reducible exact Sel.nil | with_reducible exact Del.here | with_reducible apply Del.there | with_reducible apply Sel.cons | with_reducible apply Sel.drop)); done) | (repeat (first | exact Sel.refl | exact Sel.nil | exact Del.here | apply Del.there | apply Sel.cons | apply Sel.drop)))) | exact M.rdLit' (by first | ((repeat (first | with_reducible exact Has.here | with_reducible refine Has.there ?_)); done) | (repeat (first | exact Has.here | refine Has.there ?_))) | exact M.rdLent (by first | ((repeat (first | with_reducible exact Has.here | with_reducible refine Has.there ?_)); done) | (repeat (first | exact Has.here | refine Has.there ?_))) | exact RdB.nil _ _) (by omega))) (one_end id rep (by omega)).1 (one_end id rep (by omega)).2) rfl ?_
                    rintro _ w ⟨rfl, x2, hg2, hs2, ho2, M⟩
                    rw [hg2]
                    refine WL.nil ?_
                    refine WX.next ?_
                    refine W.sub [(1, _), (9, _), (10, _)] (.cons rfl (.cons rfl (.cons rfl .nil))) ?_
                    refine W.seq ?_
                    refine W.region ?_
                    refine WL.move rfl rfl ?_
                    refine WL.call Try.call15 rfl (Clients2 x2 ho2 hs2 w0 w _ M) rfl ?_
                    rintro _ w ⟨B1, b1, ds1, rfl, hd1, M⟩
                    obtain ⟨d1, rfl, hr1⟩ := one_of hd1
                    dsimp only at hr1
                    replace M := M.sel (K := x2.L ++ (Asr.lst clientE B1 b1 [d1] :: Asr.star ([d1].map ClX.O) :: Asr.row g0_0 35 [.int .i64 kind, .int .u64 (id : Int), .int .u64 (num : Int), .slice A rep.length cap] :: [])) (by first | ((repeat (first | with_reducible exact Sel.refl | with_reducible exact Sel.nil | with_reducible exact Del.here | with_reducible apply Del.there | with_reducible apply Sel.cons | with_reducible apply Sel.drop)); done) | (repeat (first | exact Sel.refl | exact Sel.nil | exact Del.here | apply Del.there | apply Sel.cons | apply Sel.drop)))
                    refine WL.assign rfl rfl ?_
                    refine WL.nil ?_
                    refine WX.next ?_
                    refine W.sub [(1, _), (9, _), (10, _), (12, _)] (.cons rfl (.cons rfl (.cons rfl (.cons rfl .nil)))) ?_
                    refine W.seq ?_
                    refine W.region ?_
                    refine WL.move rfl rfl ?_
                    refine WL.call Try.call15 rfl (Clients2 x2 ho2 hs2 w0 w _ M) rfl ?_
                    rintro _ w ⟨B2, b2, ds2, rfl, hd2, M⟩
                    obtain ⟨d2, rfl, hr2⟩ := one_of hd2
                    dsimp only at hr2
                    replace M := M.sel (K := x2.L ++ (Asr.lst clientE B2 b2 [d2] :: Asr.star ([d2].map ClX.O) :: Asr.lst clientE B1 b1 [d1] :: Asr.star ([d1].map ClX.O) :: Asr.row g0_0 35 [.int .i64 kind, .int .u64 (id : Int), .int .u64 (num : Int), .slice A rep.length cap] :: [])) (by first | ((repeat (first | with_reducible exact Sel.refl | with_reducible exact Sel.nil | with_reducible exact Del.here | with_reducible apply Del.there | with_reducible apply Sel.cons | with_reducible apply Sel.drop)); done) | (repeat (first | exact Sel.refl | exact Sel.nil | exact Del.here | apply Del.there | apply Sel.cons | apply Sel.drop)))
                    refine WL.assign rfl rfl ?_
                    refine WL.nil ?_
                    refine WX.next ?_
                    refine W.sub [(1, _), (9, _), (10, _), (12, _), (13, _)] (.cons rfl (.cons rfl (.cons rfl (.cons rfl (.cons rfl .nil))))) ?_
                    refine W.seq ?_
                    refine W.region ?_
                    refine WL.move rfl rfl ?_
                    refine WL.fieldR (off := 1) Try.underlying35 rfl rfl Try.sizeOf29 rfl rfl rfl ?_
                    refine WL.loadR Try.isAgg29 rfl M (by first | ((repeat (first | with_reducible exact Has.here | with_reducible refine Has.there ?_)); done) | (repeat (first | exact Has.here | refine Has.there ?_))) rfl rfl ?_
                    refine WL.call Try.call12 rfl (Begin2 x2 ho2 hs2 id 5 w0 w _ M (by dsimp only; omega) hid (by omega) (one_again id 0 rep).1 (one_again id 0 rep).2.1 (one_again id 0 rep).2.2.1 (one_again id 0 rep).2.2.2) rfl ?_
                    rintro _ w ⟨x3, A3, k3, rfl, hg3, hs3, ho3, M⟩
                    rw [hg3]
                    replace M := M.sel (K := x3.L ++ (Asr.own 5 1 A3 rep.length k3 (bs rep) :: Asr.lst clientE B2 b2 [d2] :: Asr.star ([d2].map ClX.O) :: Asr.lst clientE B1 b1 [d1] :: Asr.star ([d1].map ClX.O) :: Asr.row g0_0 35 [.int .i64 kind, .int .u64 (id : Int), .int .u64 (num : Int), .slice A rep.length cap] :: [])) (by first | ((repeat (first | with_reducible exact Sel.refl | with_reducible exact Sel.nil | with_reducible exact Del.here | with_reducible apply Del.there | with_reducible apply Sel.cons | with_reducible apply Sel.drop)); done) | (repeat (first | exact Sel.refl | exact Sel.nil | exact Del.here | apply Del.there | apply Sel.cons | apply Sel.drop)))
                    refine WL.move rfl rfl ?_
                    refine WL.extractL rfl rfl rfl ?_
                    refine WL.extractL rfl rfl rfl ?_
                    refine WL.extractL rfl rfl rfl ?_
                    refine WL.assign rfl rfl ?_
                    refine WL.assign rfl rfl ?_
                    refine WL.assign rfl rfl ?_
                    refine WL.nil ?_
                    refine WX.next ?_
                    refine W.sub [(1, _), (9, _), (10, _), (12, _), (13, _), (15, _)] (.cons rfl (.cons rfl (.cons rfl (.cons rfl (.cons rfl (.cons rfl .nil)))))) ?_
                    refine W.seq ?_
                    refine W.region ?_
                    refine WL.move rfl rfl ?_
                    refine WL.fieldR (off := 1) Try.underlying35 rfl rfl Try.sizeOf29 rfl rfl rfl ?_
                    refine WL.loadR Try.isAgg29 rfl M (by first | ((repeat (first | with_reducible exact Has.here | with_reducible refine Has.there ?_)); done) | (repeat (first | exact Has.here | refine Has.there ?_))) rfl rfl ?_
                    refine WL.call Try.call12 rfl (Begin2 x3 ho3 hs3 id 5 w0 w _ M (by dsimp only; omega) hid (by omega) (one_again id 1 rep).1 (one_again id 1 rep).2.1 (one_again id 1 rep).2.2.1 (one_again id 1 rep).2.2.2) rfl ?_
                    rintro _ w ⟨x4, A4, k4, rfl, hg4, hs4, ho4, M⟩
                    rw [hg4]
                    refine WL.move rfl rfl ?_
                    refine WL.extractL rfl rfl rfl ?_
                    refine WL.extractL rfl rfl rfl ?_
                    refine WL.extractL rfl rfl rfl ?_
                    refine WL.assign rfl rfl ?_
                    refine WL.assign rfl rfl ?_
                    refine WL.assign rfl rfl ?_
                    refine WL.nil ?_
                    refine WX.next ?_
                    refine W.sub [(1, _), (9, _), (10, _), (12, _), (13, _), (15, _), (18, _)] (.cons rfl (.cons rfl (.cons rfl (.cons rfl (.cons rfl (.cons rfl (.cons rfl .nil))))))) ?_
                    refine W.seq ?_
                    refine W.seq ?_
                    refine W.region ?_
                    refine WL.move rfl rfl ?_
                    refine WL.len Try.underlying41 rfl rfl ?_
                    refine WL.neI rfl rfl rfl ?_
                    refine WL.moveIf rfl rfl (fun c10 => ?_) (fun c10 => ?_)
                    · exact absurd rfl c10
                    · refine WL.on rfl rfl ?_
                      refine WL.move rfl rfl ?_
                      refine WL.on rfl rfl ?_
                      refine WL.len Try.underlying41 rfl rfl ?_
                      refine WL.on rfl rfl ?_
                      refine WL.neI rfl rfl rfl ?_
                      refine WL.pickF rfl rfl rfl ?_
                      refine WL.moveIf rfl rfl (fun c11 => ?_) (fun c11 => ?_)
                      · exact absurd rfl c11
                      · refine WL.on rfl rfl ?_
                        refine WL.move rfl rfl ?_
                        refine WL.on rfl rfl ?_
                        refine WL.fieldR (off := 3) Try.underlying35 rfl rfl Try.sizeOf32 rfl rfl rfl ?_
                        refine WL.on rfl rfl ?_
                        refine WL.loadR Try.isAgg32 rfl M (by first | ((repeat (first | with_reducible exact Has.here | with_reducible refine Has.there ?_)); done) | (repeat (first | exact Has.here | refine Has.there ?_))) rfl rfl ?_
                        refine WL.on rfl rfl ?_
                        refine WL.call Try.call13 rfl (Same_ok (l1 := rep) (l2 := rep) (by first | first | with_reducible assumption | with_reducible exact RdB.mem (by with_reducible assumption) M | exact M.rdB (by first | ((repeat (first | with_reducible exact Has.here | with_reducible refine Has.there ?_)); done) | (repeat (first | exact Has.here | refine Has.there ?_))) | exact RdH.at (by assumption) (M.sel (by first | ((repeat (first | with_reducible exact Sel.refl | with_reducible exact Sel.nil | with_reducible exact Del.here | with_reducible apply Del.there | with_reducible apply Sel.cons | with_reducible apply Sel.drop)); done) | (repeat (first | exact Sel.refl | exact Sel.nil | exact Del.here | apply Del.there | apply Sel.cons | apply Sel.drop)))) | exact M.rdLit' (by first | ((repeat (first | with_reducible exact Has.here | with_reducible refine Has.there ?_)); done) | (repeat (first | exact Has.here | refine Has.there ?_))) | exact M.rdLent (by first | ((repeat (first | with_reducible exact Has.here | with_reducible refine Has.there ?_)); done) | (repeat (first | exact Has.here | refine Has.there ?_))) | exact RdB.nil _ _ | exact RdB.sub (by first | with_reducible assumption | with_reducible exact RdB.mem (by with_reducible assumption) M | exact M.rdB (by first | ((repeat (first | with_reducible exact Has.here | with_reducible refine Has.there ?_)); done) | (repeat (first | exact Has.here | refine Has.there ?_))) | exact RdH.at (by assumption) (M.sel (by first | ((repeat (first | with_reducible exact Sel.refl | with_reducible exact Sel.nil | with_reducible exact Del.here | with_reducible apply Del.there | with_reducible apply Sel.cons | with_reducible apply Sel.drop)); done) | (repeat (first | exact Sel.refl | exact Sel.nil | exact Del.here | apply Del.there | apply Sel.cons | apply Sel.drop)))) | exact M.rdLit' (by first | ((repeat (first | with_reducible exact Has.here | with_reducible refine Has.there ?_)); done) | (repeat (first | exact Has.here | refine Has.there ?_))) | exact M.rdLent (by first | ((repeat (first | with_reducible exact Has.here | with_reducible refine Has.there ?_)); done) | (repeat (first | exact Has.here | refine Has.there ?_))) | exact RdB.nil _ _) (by omega) (by omega) | exact RdB.pre' (by first | with_reducible assumption | with_reducible exact RdB.mem (by with_reducible assumption) M | exact M.rdB (by first | ((repeat (first | with_reducible exact Has.here | with_reducible refine Has.there ?_)); done) | (repeat (first | exact Has.here | refine Has.there ?_))) | exact RdH.at (by assumption) (M.sel (by first | ((repeat (first | with_reducible exact Sel.refl | with_reducible exact Sel.nil | with_reducible exact Del.here | with_reducible apply Del.there | with_reducible apply Sel.cons | with_reducible apply Sel.drop)); done) | (repeat (first | exact Sel.refl | exact Sel.nil | exact Del.here | apply Del.there | apply Sel.cons | apply Sel.drop)))) | exact M.rdLit' (by first | ((repeat (first | with_reducible exact Has.here | with_reducible refine Has.there ?_)); done) | (repeat (first | exact Has.here | refine Has.there ?_))) | exact M.rdLent (by first | ((repeat (first | with_reducible exact Has.here | with_reducible refine Has.there ?_)); done) | (repeat (first | exact Has.here | refine Has.there ?_))) | exact RdB.nil _ _) (by omega) | exact RdB.suf (by first | with_reducible assumption | with_reducible exact RdB.mem (by with_reducible assumption) M | exact M.rdB (by first | ((repeat (first | with_reducible exact Has.here | with_reducible refine Has.there ?_)); done) | (repeat (first | exact Has.here | refine Has.there ?_))) | exact RdH.at (by assumption) (M.sel (by first | ((repeat (first | with_reducible exact Sel.refl | with_reducible exact Sel.nil | with_reducible exact Del.here | with_reducible apply Del.there | with_reducible apply Sel.cons | with_reducible apply Sel.drop)); done) | (repeat (first | exact Sel.refl | exact Sel.nil | exact Del.here | apply Del.there | apply Sel.cons | apply Sel.drop)))) | exact M.rdLit' (by first | ((repeat (first | with_reducible exact Has.here | with_reducible refine Has.there ?_)); done) | (repeat (first | exact Has.here | refine Has.there ?_))) | exact M.rdLent (by first | ((repeat (first | with_reducible exact Has.here | with_reducible refine Has.there ?_)); done) | (repeat (first | exact Has.here | refine Has.there ?_))) | exact RdB.nil _ _) (by omega)) (by first | first | with_reducible assumption | with_reducible exact RdB.mem (by with_reducible assumption) M | exact M.rdB (by first | ((repeat (first | with_reducible exact Has.here | with_reducible refine Has.there ?_)); done) | (repeat (first | exact Has.here | refine Has.there ?_))) | exact RdH.at (by assumption) (M.sel (by first | ((repeat (first | with_reducible exact Sel.refl | with_reducible exact Sel.nil | with_reducible exact Del.here | with_reducible apply Del.there | with_reducible apply Sel.cons | with_reducible apply Sel.drop)); done) | (repeat (first | exact Sel.refl | exact Sel.nil | exact Del.here | apply Del.there | apply Sel.cons | apply Sel.drop)))) | exact M.rdLit' (by first | ((repeat (first | with_reducible exact Has.here | with_reducible refine Has.there ?_)); done) | (repeat (first | exact Has.here | refine Has.there ?_))) | exact M.rdLent (by first | ((repeat (first | with_reducible exact Has.here | with_reducible refine Has.there ?_)); done) | (repeat (first | exact Has.here | refine Has.there ?_))) | exact RdB.nil _ _ | exact RdB.sub (by first | with_reducible assumption | with_reducible exact RdB.mem (by with_reducible assumption) M | exact M.rdB (by first | ((repeat (first | with_reducible exact Has.here | with_reducible refine Has.there ?_)); done) | (repeat (first | exact Has.here | refine Has.there ?_))) | exact RdH.at (by assumption) (M.sel (by first | ((repeat (first | with_reducible exact Sel.refl | with_reducible exact Sel.nil | with_reducible exact Del.here | with_reducible apply Del.there | with_reducible apply Sel.cons | with_reducible apply Sel.drop)); done) | (repeat (first | exact Sel.refl | exact Sel.nil | exact Del.here | apply Del.there | apply Sel.cons | apply Sel.drop)))) | exact M.rdLit' (by first | ((repeat (first | with_reducible exact Has.here | with_reducible refine Has.there ?_)); done) | (repeat (first | exact Has.here | refine Has.there ?_))) | exact M.rdLent (by first | ((repeat (first | with_reducible exact Has.here | with_reducible refine Has.there ?_)); done) | (repeat (first | exact Has.here | refine Has.there ?_))) | exact RdB.nil _ _) (by omega) (by omega) | exact RdB.pre' (by first | with_reducible assumption | with_reducible exact RdB.mem (by with_reducible assumption) M | exact M.rdB (by first | ((repeat (first | with_reducible exact Has.here | with_reducible refine Has.there ?_)); done) | (repeat (first | exact Has.here | refine Has.there ?_))) | exact RdH.at (by assumption) (M.sel (by first | ((repeat (first | with_reducible exact Sel.refl | with_reducible exact Sel.nil | with_reducible exact Del.here | with_reducible apply Del.there | with_reducible apply Sel.cons | with_reducible apply Sel.drop)); done) | (repeat (first | exact Sel.refl | exact Sel.nil | exact Del.here | apply Del.there | apply Sel.cons | apply Sel.drop)))) | exact M.rdLit' (by first | ((repeat (first | with_reducible exact Has.here | with_reducible refine Has.there ?_)); done) | (repeat (first | exact Has.here | refine Has.there ?_))) | exact M.rdLent (by first | ((repeat (first | with_reducible exact Has.here | with_reducible refine Has.there ?_)); done) | (repeat (first | exact Has.here | refine Has.there ?_))) | exact RdB.nil _ _) (by omega) | exact RdB.suf (by first | with_reducible assumption | with_reducible exact RdB.mem (by with_reducible assumption) M | exact M.rdB (by first | ((repeat (first | with_reducible exact Has.here | with_reducible refine Has.there ?_)); done) | (repeat (first | exact Has.here | refine Has.there ?_))) | exact RdH.at (by assumption) (M.sel (by first | ((repeat (first | with_reducible exact Sel.refl | with_reducible exact Sel.nil | with_reducible exact Del.here | with_reducible apply Del.there | with_reducible apply Sel.cons | with_reducible apply Sel.drop)); done) | (repeat (first | exact Sel.refl | exact Sel.nil | exact Del.here | apply Del.there | apply Sel.cons | apply Sel.drop)))) | exact M.rdLit' (by first | ((repeat (first | with_reducible exact Has.here | with_reducible refine Has.there ?_)); done) | (repeat (first | exact Has.here | refine Has.there ?_))) | exact M.rdLent (by first | ((repeat (first | with_reducible exact Has.here | with_reducible refine Has.there ?_)); done) | (repeat (first | exact Has.here | refine Has.there ?_))) | exact RdB.nil _ _) (by omega))) rfl ?_
                        rintro _ _ ⟨rfl, rfl⟩
                        refine WL.on rfl rfl ?_
                        refine WL.notP rfl rfl ?_
                        refine WL.pickF rfl rfl rfl ?_
                        refine WL.nil ?_
                        refine WX.next ?_
                        refine W.sub [(1, _), (9, _), (10, _), (12, _), (13, _), (15, _), (18, _), (140, _)] (.cons rfl (.cons rfl (.cons rfl (.cons rfl (.cons rfl (.cons rfl (.cons rfl (.cons rfl .nil)))))))) ?_
                        refine W.ite rfl (fun c12 => ?_) (fun c12 => ?_)
                        · exact absurd rfl c12
                        · refine W.skip ?_
                          refine WX.next ?_
                          refine W.seq ?_
                          have hj0 : 0 < [d1].length := by simp
                          have hj1 : 0 < [d2].length := by simp
                          refine W.drawM ([Asr.lst clientE B2 b2 [d2], Asr.lst clientE B1 b1 [d1]]) (by kernel_rfl) (fun j => [3, 7].contains j) M (by first | ((repeat (first | with_reducible exact Sel.refl | with_reducible exact Sel.nil | with_reducible exact Del.here | with_reducible apply Del.there | with_reducible apply Sel.cons | with_reducible apply Sel.drop)); done) | (repeat (first | exact Sel.refl | exact Sel.nil | exact Del.here | apply Del.there | apply Sel.cons | apply Sel.drop))) ?_
                          clear M; intro M
                          apply DG.pure_ [0, 1, 2, 4, 5, 6, 8, 9] 5 rfl (by kernel_rfl) (by kernel_rfl)
                          · intro w
                            refine WL.move rfl rfl ?_
                            refine WL.idxA (jn := 0) Try.underlying41 Try.sizeOf45 rfl rfl (RdL.isSome (E := clientE) (by first | with_reducible assumption | with_reducible exact RdL.mem (by with_reducible assumption) M | exact M.rdL (by first | ((repeat (first | with_reducible exact Has.here | with_reducible refine Has.there ?_)); done) | (repeat (first | exact Has.here | refine Has.there ?_))) | exact RdLH.at (by assumption) (M.sel (by first | ((repeat (first | with_reducible exact Sel.refl | with_reducible exact Sel.nil | with_reducible exact Del.here | with_reducible apply Del.there | with_reducible apply Sel.cons | with_reducible apply Sel.drop)); done) | (repeat (first | exact Sel.refl | exact Sel.nil | exact Del.here | apply Del.there | apply Sel.cons | apply Sel.drop)))) | exact RdL.nil _ _ _) (by omega)) (by omega) (by omega) (by first | exact rfl | exact (Int.toNat_of_nonneg (by omega)).symm) rfl ?_
                            refine WL.fieldA (off := 3) Try.underlying45 rfl rfl Try.sizeOf32 rfl rfl rfl ?_
                            refine WL.move rfl rfl ?_
                            refine WL.idxA (jn := 0) Try.underlying41 Try.sizeOf45 rfl rfl (RdL.isSome (E := clientE) (by first | with_reducible assumption | with_reducible exact RdL.mem (by with_reducible assumption) M | exact M.rdL (by first | ((repeat (first | with_reducible exact Has.here | with_reducible refine Has.there ?_)); done) | (repeat (first | exact Has.here | refine Has.there ?_))) | exact RdLH.at (by assumption) (M.sel (by first | ((repeat (first | with_reducible exact Sel.refl | with_reducible exact Sel.nil | with_reducible exact Del.here | with_reducible apply Del.there | with_reducible apply Sel.cons | with_reducible apply Sel.drop)); done) | (repeat (first | exact Sel.refl | exact Sel.nil | exact Del.here | apply Del.there | apply Sel.cons | apply Sel.drop)))) | exact RdL.nil _ _ _) (by omega)) (by omega) (by omega) (by first | exact rfl | exact (Int.toNat_of_nonneg (by omega)).symm) rfl ?_
                            refine WL.fieldA (off := 3) Try.underlying45 rfl rfl Try.sizeOf32 rfl rfl rfl ?_
                            refine WL.move rfl rfl ?_
                            refine WL.move rfl rfl ?_
                            exact Chain.end_ rfl
                          apply DG.take [3, 7] 3 rfl (by kernel_rfl) (by kernel_rfl) (M.sel (by first | ((repeat (first | with_reducible exact Sel.refl | with_reducible exact Sel.nil | with_reducible exact Del.here | with_reducible apply Del.there | with_reducible apply Sel.cons | with_reducible apply Sel.drop)); done) | (repeat (first | exact Sel.refl | exact Sel.nil | exact Del.here | apply Del.there | apply Sel.cons | apply Sel.drop))))
                          · intro w M
                            refine WL.loadE (E := clientE) Try.isAgg32 rfl (by first | with_reducible assumption | with_reducible exact RdL.mem (by with_reducible assumption) M | exact M.rdL (by first | ((repeat (first | with_reducible exact Has.here | with_reducible refine Has.there ?_)); done) | (repeat (first | exact Has.here | refine Has.there ?_))) | exact RdLH.at (by assumption) (M.sel (by first | ((repeat (first | with_reducible exact Sel.refl | with_reducible exact Sel.nil | with_reducible exact Del.here | with_reducible apply Del.there | with_reducible apply Sel.cons | with_reducible apply Sel.drop)); done) | (repeat (first | exact Sel.refl | exact Sel.nil | exact Del.here | apply Del.there | apply Sel.cons | apply Sel.drop)))) | exact RdL.nil _ _ _) (by omega) rfl rfl ?_
                            refine WL.loadE (E := clientE) Try.isAgg32 rfl (by first | with_reducible assumption | with_reducible exact RdL.mem (by with_reducible assumption) M | exact M.rdL (by first | ((repeat (first | with_reducible exact Has.here | with_reducible refine Has.there ?_)); done) | (repeat (first | exact Has.here | refine Has.there ?_))) | exact RdLH.at (by assumption) (M.sel (by first | ((repeat (first | with_reducible exact Sel.refl | with_reducible exact Sel.nil | with_reducible exact Del.here | with_reducible apply Del.there | with_reducible apply Sel.cons | with_reducible apply Sel.drop)); done) | (repeat (first | exact Sel.refl | exact Sel.nil | exact Del.here | apply Del.there | apply Sel.cons | apply Sel.drop)))) | exact RdL.nil _ _ _) (by omega) rfl rfl ?_
                            exact Chain.end_ rfl
                          refine DG.step 10 2 rfl (by kernel_rfl) ?_
                          refine WL.buildL (E := oxE) (l := [d1.ox, d2.ox, ⟨A3, k3, rep⟩, ⟨A4, k4, rep⟩]) Try.elem32 M rfl rfl rfl rfl rfl rfl ?_
                          intro g18_10 w M
                          refine DG.go (G := fun j => [3, 7].contains j) (i := 10) (f' := 2) (done := [0, 1, 2, 4, 5, 6, 8, 9, 3, 7]) (fun h => by cases h) ?_
                          refine DG.step 11 1 rfl (by kernel_rfl) ?_
                          have M2 := Mem.unstar1 (M.sel (K := Asr.star [d1.O] :: Asr.star [d2.O] :: Asr.own 5 1 A3 rep.length k3 (bs rep) :: Asr.own 5 1 A4 rep.length k4 (bs rep) :: Asr.lst oxE (some ⟨g18_10, 0, none⟩) 4 [d1.ox, d2.ox, ⟨A3, k3, rep⟩, ⟨A4, k4, rep⟩] :: Asr.row g0_0 35 [.int .i64 kind, .int .u64 (id : Int), .int .u64 (num : Int), .slice A rep.length cap] :: x4.L) (by first | ((repeat (first | with_reducible exact Sel.refl | with_reducible exact Sel.nil | with_reducible exact Del.here | with_reducible apply Del.there | with_reducible apply Sel.cons | with_reducible apply Sel.drop)); done) | (repeat (first | exact Sel.refl | exact Sel.nil | exact Del.here | apply Del.there | apply Sel.cons | apply Sel.drop))))
                          have M3 := Mem.unstar1 M2.f1
                          have M4 : Mem w0 w (Asr.star ([d1.ox, d2.ox, ⟨A3, k3, rep⟩, ⟨A4, k4, rep⟩].map OX.O) :: _) := Mem.star4 (A := d1.O) (B := d2.O) M3.f1
                          replace M : Mem w0 w (Asr.lst oxE (some ⟨g18_10, 0, none⟩) 4 [d1.ox, d2.ox, ⟨A3, k3, rep⟩, ⟨A4, k4, rep⟩] :: Asr.star ([d1.ox, d2.ox, ⟨A3, k3, rep⟩, ⟨A4, k4, rep⟩].map OX.O) :: (x4.L ++ [Asr.row g0_0 35 [.int .i64 kind, .int .u64 (id : Int), .int .u64 (num : Int), .slice A rep.length cap]])) := M4.sel (by first | ((repeat (first | with_reducible exact Sel.refl | with_reducible exact Sel.nil | with_reducible exact Del.here | with_reducible apply Del.there | with_reducible apply Sel.cons | with_reducible apply Sel.drop)); done) | (repeat (first | exact Sel.refl | exact Sel.nil | exact Del.here | apply Del.there | apply Sel.cons | apply Sel.drop)))
                          have hown : ∀ o ∈ [d1.ox, d2.ox, ⟨A3, k3, rep⟩, ⟨A4, k4, rep⟩], o.l.length ≤ 140737488351232 := by
                            intro o ho
                            simp only [List.mem_cons, List.not_mem_nil, or_false] at ho
                            rcases ho with rfl | rfl | rfl | rfl
                            · show d1.rep.length ≤ _; rw [hr1]; omega
                            · show d2.rep.length ≤ _; rw [hr2]; omega
                            · show rep.length ≤ _; omega
                            · show rep.length ≤ _; omega
                          refine WL.call Try.call20 rfl (Own2 (xs := [d1.ox, d2.ox, ⟨A3, k3, rep⟩, ⟨A4, k4, rep⟩]) M (by first | ((repeat (first | with_reducible exact Del.here | with_reducible apply Del.there)); done) | (repeat (first | exact Del.here | apply Del.there))) (by first | ((repeat (first | with_reducible exact Del.here | with_reducible apply Del.there)); done) | (repeat (first | exact Del.here | apply Del.there))) (by simp) hown) rfl ?_
                          rintro _ w ⟨rfl, M⟩
                          refine DG.go (G := fun j => [3, 7].contains j) (i := 11) (f' := 1) (done := [0, 1, 2, 4, 5, 6, 8, 9, 3, 7, 10]) (fun h => by cases h) ?_
                          apply DG.pure_ [12] 0 rfl (by kernel_rfl) (by kernel_rfl)
                          · intro w
                            refine WL.assign rfl rfl ?_
                            exact Chain.end_ rfl
                          refine DG.end_ (by kernel_rfl) ?_
                          refine WX.next ?_
                          refine W.sub [(1, _), (9, _), (10, _), (20, _)] (.cons rfl (.cons rfl (.cons rfl (.cons rfl .nil)))) ?_
                          refine W.seq ?_
                          refine W.region ?_
                          refine WL.move rfl rfl ?_
                          refine WL.fieldR (off := 1) Try.underlying35 rfl rfl Try.sizeOf29 rfl rfl rfl ?_
                          refine WL.loadR Try.isAgg29 rfl M (by first | ((repeat (first | with_reducible exact Has.here | with_reducible refine Has.there ?_)); done) | (repeat (first | exact Has.here | refine Has.there ?_))) rfl rfl ?_
                          refine WL.call Try.call12 rfl (Begin2 x4 ho4 hs4 id 5 w0 w _ M (by dsimp only; omega) hid (by omega) (one_again id 2 rep).1 (one_again id 2 rep).2.1 (one_again id 2 rep).2.2.1 (one_again id 2 rep).2.2.2) rfl ?_
                          rintro _ w ⟨x5, A5, k5, rfl, hg5, hs5, ho5, M⟩
                          refine WL.move rfl rfl ?_
                          refine WL.extractL rfl rfl rfl ?_
                          refine WL.extractL rfl rfl rfl ?_
                          refine WL.extractL rfl rfl rfl ?_
                          refine WL.assign rfl rfl ?_
                          refine WL.assign rfl rfl ?_
                          refine WL.assign rfl rfl ?_
                          refine WL.nil ?_
                          refine WX.next ?_
                          refine W.sub [(1, _), (9, _), (20, _), (22, _)] (.cons rfl (.cons rfl (.cons rfl (.cons rfl .nil)))) ?_
                          refine W.seq ?_
                          refine W.region ?_
                          refine WL.move rfl rfl ?_
                          refine WL.moveIf rfl rfl (fun c13 => ?_) (fun c13 => ?_)
                          · refine WL.on rfl rfl ?_
                            refine WL.move rfl rfl ?_
                            refine WL.pickT rfl rfl rfl ?_
                            refine WL.moveIf rfl rfl (fun c14 => ?_) (fun c14 => ?_)
                            · refine WL.on rfl rfl ?_
                              refine WL.move rfl rfl ?_
                              refine WL.on rfl rfl ?_
                              refine WL.fieldR (off := 3) Try.underlying35 rfl rfl Try.sizeOf32 rfl rfl rfl ?_
                              refine WL.on rfl rfl ?_
                              refine WL.loadR Try.isAgg32 rfl M (by first | ((repeat (first | with_reducible exact Has.here | with_reducible refine Has.there ?_)); done) | (repeat (first | exact Has.here | refine Has.there ?_))) rfl rfl ?_
                              refine WL.on rfl rfl ?_
                              refine WL.call Try.call13 rfl (Same_ok (l1 := rep) (l2 := rep) (by first | first | with_reducible assumption | with_reducible exact RdB.mem (by with_reducible assumption) M | exact M.rdB (by first | ((repeat (first | with_reducible exact Has.here | with_reducible refine Has.there ?_)); done) | (repeat (first | exact Has.here | refine Has.there ?_))) | exact RdH.at (by assumption) (M.sel (by first | ((repeat (first | with_reducible exact Sel.refl | with_reducible exact Sel.nil | with_reducible exact Del.here | with_reducible apply Del.there | with_reducible apply Sel.cons | with_reducible apply Sel.drop)); done) | (repeat (first | exact Sel.refl | exact Sel.nil | exact Del.here | apply Del.there | apply Sel.cons | apply Sel.drop)))) | exact M.rdLit' (by first | ((repeat (first | with_reducible exact Has.here | with_reducible refine Has.there ?_)); done) | (repeat (first | exact Has.here | refine Has.there ?_))) | exact M.rdLent (by first | ((repeat (first | with_reducible exact Has.here | with_reducible refine Has.there ?_)); done) | (repeat (first | exact Has.here | refine Has.there ?_))) | exact RdB.nil _ _ | exact RdB.sub (by first | with_reducible assumption | with_reducible exact RdB.mem (by with_reducible assumption) M | exact M.rdB (by first | ((repeat (first | with_reducible exact Has.here | with_reducible refine Has.there ?_)); done) | (repeat (first | exact Has.here | refine Has.there ?_))) | exact RdH.at (by assumption) (M.sel (by first | ((repeat (first | with_reducible exact Sel.refl | with_reducible exact Sel.nil | with_reducible exact Del.here | with_reducible apply Del.there | with_reducible apply Sel.cons | with_reducible apply Sel.drop)); done) | (repeat (first | exact Sel.refl | exact Sel.nil | exact Del.here | apply Del.there | apply Sel.cons | apply Sel.drop)))) | exact M.rdLit' (by first | ((repeat (first | with_reducible exact Has.here | with_reducible refine Has.there ?_)); done) | (repeat (first | exact Has.here | refine Has.there ?_))) | exact M.rdLent (by first | ((repeat (first | with_reducible exact Has.here | with_reducible refine Has.there ?_)); done) | (repeat (first | exact Has.here | refine Has.there ?_))) | exact RdB.nil _ _) (by omega) (by omega) | exact RdB.pre' (by first | with_reducible assumption | with_reducible exact RdB.mem (by with_reducible assumption) M | exact M.rdB (by first | ((repeat (first | with_reducible exact Has.here | with_reducible refine Has.there ?_)); done) | (repeat (first | exact Has.here | refine Has.there ?_))) | exact RdH.at (by assumption) (M.sel (by first | ((repeat (first | with_reducible exact Sel.refl | with_reducible exact Sel.nil | with_reducible exact Del.here | with_reducible apply Del.there | with_reducible apply Sel.cons | with_reducible apply Sel.drop)); done) | (repeat (first | exact Sel.refl | exact Sel.nil | exact Del.here | apply Del.there | apply Sel.cons | apply Sel.drop)))) | exact M.rdLit' (by first | ((repeat (first | with_reducible exact Has.here | with_reducible refine Has.there ?_)); done) | (repeat (first | exact Has.here | refine Has.there ?_))) | exact M.rdLent (by first | ((repeat (first | with_reducible exact Has.here | with_reducible refine Has.there ?_)); done) | (repeat (first | exact Has.here | refine Has.there ?_))) | exact RdB.nil _ _) (by omega) | exact RdB.suf (by first | with_reducible assumption | with_reducible exact RdB.mem (by with_reducible assumption) M | exact M.rdB (by first | ((repeat (first | with_reducible exact Has.here | with_reducible refine Has.there ?_)); done) | (repeat (first | exact Has.here | refine Has.there ?_))) | exact RdH.at (by assumption) (M.sel (by first | ((repeat (first | with_reducible exact Sel.refl | with_reducible exact Sel.nil | with_reducible exact Del.here | with_reducible apply Del.there | with_reducible apply Sel.cons | with_reducible apply Sel.drop)); done) | (repeat (first | exact Sel.refl | exact Sel.nil | exact Del.here | apply Del.there | apply Sel.cons | apply Sel.drop)))) | exact M.rdLit' (by first | ((repeat (first | with_reducible exact Has.here | with_reducible refine Has.there ?_)); done) | (repeat (first | exact Has.here | refine Has.there ?_))) | exact M.rdLent (by first | ((repeat (first | with_reducible exact Has.here | with_reducible refine Has.there ?_)); done) | (repeat (first | exact Has.here | refine Has.there ?_))) | exact RdB.nil _ _) (by omega)) (by first | first | with_reducible assumption | with_reducible exact RdB.mem (by with_reducible assumption) M | exact M.rdB (by first | ((repeat (first | with_reducible exact Has.here | with_reducible refine Has.there ?_)); done) | (repeat (first | exact Has.here | refine Has.there ?_))) | exact RdH.at (by assumption) (M.sel (by first | ((repeat (first | with_reducible exact Sel.refl | with_reducible exact Sel.nil | with_reducible exact Del.here | with_reducible apply Del.there | with_reducible apply Sel.cons | with_reducible apply Sel.drop)); done) | (repeat (first | exact Sel.refl | exact Sel.nil | exact Del.here | apply Del.there | apply Sel.cons | apply Sel.drop)))) | exact M.rdLit' (by first | ((repeat (first | with_reducible exact Has.here | with_reducible refine Has.there ?_)); done) | (repeat (first | exact Has.here | refine Has.there ?_))) | exact M.rdLent (by first | ((repeat (first | with_reducible exact Has.here | with_reducible refine Has.there ?_)); done) | (repeat (first | exact Has.here | refine Has.there ?_))) | exact RdB.nil _ _ | exact RdB.sub (by first | with_reducible assumption | with_reducible exact RdB.mem (by with_reducible assumption) M | exact M.rdB (by first | ((repeat (first | with_reducible exact Has.here | with_reducible refine Has.there ?_)); done) | (repeat (first | exact Has.here | refine Has.there ?_))) | exact RdH.at (by assumption) (M.sel (by first | ((repeat (first | with_reducible exact Sel.refl | with_reducible exact Sel.nil | with_reducible exact Del.here | with_reducible apply Del.there | with_reducible apply Sel.cons | with_reducible apply Sel.drop)); done) | (repeat (first | exact Sel.refl | exact Sel.nil | exact Del.here | apply Del.there | apply Sel.cons | apply Sel.drop)))) | exact M.rdLit' (by first | ((repeat (first | with_reducible exact Has.here | with_reducible refine Has.there ?_)); done) | (repeat (first | exact Has.here | refine Has.there ?_))) | exact M.rdLent (by first | ((repeat (first | with_reducible exact Has.here | with_reducible refine Has.there ?_)); done) | (repeat (first | exact Has.here | refine Has.there ?_))) | exact RdB.nil _ _) (by omega) (by omega) | exact RdB.pre' (by first | with_reducible assumption | with_reducible exact RdB.mem (by with_reducible assumption) M | exact M.rdB (by first | ((repeat (first | with_reducible exact Has.here | with_reducible refine Has.there ?_)); done) | (repeat (first | exact Has.here | refine Has.there ?_))) | exact RdH.at (by assumption) (M.sel (by first | ((repeat (first | with_reducible exact Sel.refl | with_reducible exact Sel.nil | with_reducible exact Del.here | with_reducible apply Del.there | with_reducible apply Sel.cons | with_reducible apply Sel.drop)); done) | (repeat (first | exact Sel.refl | exact Sel.nil | exact Del.here | apply Del.there | apply Sel.cons | apply Sel.drop)))) | exact M.rdLit' (by first | ((repeat (first | with_reducible exact Has.here | with_reducible refine Has.there ?_)); done) | (repeat (first | exact Has.here | refine Has.there ?_))) | exact M.rdLent (by first | ((repeat (first | with_reducible exact Has.here | with_reducible refine Has.there ?_)); done) | (repeat (first | exact Has.here | refine Has.there ?_))) | exact RdB.nil _ _) (by omega) | exact RdB.suf (by first | with_reducible assumption | with_reducible exact RdB.mem (by with_reducible assumption) M | exact M.rdB (by first | ((repeat (first | with_reducible exact Has.here | with_reducible refine Has.there ?_)); done) | (repeat (first | exact Has.here | refine Has.there ?_))) | exact RdH.at (by assumption) (M.sel (by first | ((repeat (first | with_reducible exact Sel.refl | with_reducible exact Sel.nil | with_reducible exact Del.here | with_reducible apply Del.there | with_reducible apply Sel.cons | with_reducible apply Sel.drop)); done) | (repeat (first | exact Sel.refl | exact Sel.nil | exact Del.here | apply Del.there | apply Sel.cons | apply Sel.drop)))) | exact M.rdLit' (by first | ((repeat (first | with_reducible exact Has.here | with_reducible refine Has.there ?_)); done) | (repeat (first | exact Has.here | refine Has.there ?_))) | exact M.rdLent (by first | ((repeat (first | with_reducible exact Has.here | with_reducible refine Has.there ?_)); done) | (repeat (first | exact Has.here | refine Has.there ?_))) | exact RdB.nil _ _) (by omega))) rfl ?_
                              rintro _ _ ⟨rfl, rfl⟩
                              refine WL.pickT rfl rfl rfl ?_
                              refine WL.moveIf rfl rfl (fun c15 => ?_) (fun c15 => ?_)
                              · refine WL.on rfl rfl ?_
                                refine WL.call Try.call10 rfl (known13_ok _) rfl ?_
                                rintro _ w ⟨rfl, m⟩
                                replace M := M.call0 m; clear m
                                refine WL.pickT rfl rfl rfl ?_
                                refine WL.assign rfl rfl ?_
                                refine WL.nil ?_
                                refine WX.next ?_
                                refine W.sub [(2, _)] (.cons rfl .nil) ?_
                                refine W.ret ?_
                                refine WX.ret1 rfl rfl ?_
                                exact ⟨rfl, M.sel (by first | ((repeat (first | with_reducible exact Sel.refl | with_reducible exact Sel.nil | with_reducible exact Del.here | with_reducible apply Del.there | with_reducible apply Sel.cons | with_reducible apply Sel.drop)); done) | (repeat (first | exact Sel.refl | exact Sel.nil | exact Del.here | apply Del.there | apply Sel.cons | apply Sel.drop)))⟩
                              · exact absurd rfl c15
                            · exact absurd trivial c14
                          · exact absurd rfl c13
                · exact absurd rfl c7
              · exact absurd rfl c6
            · exact absurd rfl c5
          · exact absurd rfl c4
        · exact absurd rfl c3
      · exact absurd rfl c2
    · exact absurd rfl c1
end Go.Proofs.Ytmogpoghngmnmaa
