/-
  A message that was put is got again; what is got is put as the bytes were (seawalllaw20.PduBack).
-/
import Derived.Test.YtinbcidgdbmcjaaPduIn
namespace Go.Proofs.Ytinbcidgdbmcjaa
open Go Go.RowKit Bin

theorem putM_mod (m : MX) : (putM m).length % 4 = 0 := by
  rw [putM_length]
  unfold padN
  omega
set_option maxRecDepth 10000 in
set_option maxHeartbeats 4000000 in
theorem PduBack_ok {A1 : Option Addr} {c1' : Nat} {l1 : List UInt8} {A2 : Option Addr} {c2' : Nat} {l2 : List UInt8} (p : PdX) (w0 : World) (hin : p.inn w0) (h1 : RdB w0 A1 c1' l1) (h2 : RdB w0 A2 c2' l2) :
    Fn Try.prog 4 [p.v, .slice A1 l1.length c1', .slice A2 l2.length c2'] w0 fun v w' => v = .bool true ∧ Mem w0 w' [] := by
  have M := Mem.refl w0
  obtain ⟨w, hw⟩ : ∃ w, w = w0 := ⟨w0, rfl⟩
  obtain ⟨op, now, flags, lun, tag, ws, ⟨A, cap, l⟩⟩ := p
  obtain ⟨hi, hb⟩ := hin
  have hcap2 : l2.length ≤ c2' := Rd.le h2
  unfold PdX.v
  dsimp only at hb ⊢
  refine Fn.enter Try.func4 rfl Try.ntmps4 rfl ?_
  refine W.sub [(0, _), (1, _), (2, _)] (.cons rfl (.cons rfl (.cons rfl .nil))) ?_
  refine W.seq ?_
  refine W.region ?_
  refine WL.box rfl M rfl ?_
  intro g0_0 w M
  try simp only [Value.cells] at M
  try simp only [List.toList_toArray] at M
  refine WL.assign rfl rfl ?_
  refine WL.nil ?_
  refine WX.next ?_
  refine W.sub [(1, _), (2, _), (3, _)] (.cons rfl (.cons rfl (.cons rfl .nil))) ?_
  refine W.joint (fun (_ : Unit) => [(1, .slice A1 l1.length c1'), (2, .slice A2 l2.length c2'), (3, .pointer (some ⟨g0_0, 0, none⟩))]) (fun j w => Mem w0 w ((fun _ => [Asr.row g0_0 27 (PdX.cells ⟨op, now, flags, lun, tag, ws, ⟨A, cap, l⟩⟩)]) j) ∧ (fun _ => l.length ≤ 9000 ∧ l1.length ≤ 9000 ∧ l2.length ≤ 9000) j) ?_ ?_
  · refine W.seq ?_
    refine W.region ?_
    refine WL.fieldR (off := 12) Try.underlying27 rfl rfl Try.sizeOf25 rfl rfl rfl ?_
    refine WL.loadR Try.isAgg25 rfl M (by first | ((repeat (first | with_reducible exact Has.here | with_reducible refine Has.there ?_)); done) | (repeat (first | exact Has.here | refine Has.there ?_))) rfl rfl ?_
    refine WL.len Try.underlying25 rfl rfl ?_
    refine WL.gtr rfl rfl rfl ?_
    refine WL.moveIf rfl rfl (fun c0 => ?_) (fun c0 => ?_)
    · refine WL.off rfl rfl rfl rfl ?_
      refine WL.off rfl rfl rfl rfl ?_
      refine WL.off rfl rfl rfl rfl ?_
      refine WL.pickT rfl rfl rfl ?_
      refine WL.move rfl rfl ?_
      refine WL.off rfl rfl rfl rfl ?_
      refine WL.off rfl rfl rfl rfl ?_
      refine WL.off rfl rfl rfl rfl ?_
      refine WL.pickT rfl rfl rfl ?_
      refine WL.nil ?_
      refine WX.next ?_
      refine W.sub [(1, _), (2, _), (3, _), (34, _)] (.cons rfl (.cons rfl (.cons rfl (.cons rfl .nil)))) ?_
      refine W.condT rfl ?_
      refine W.seq ?_
      refine W.region ?_
      refine WL.call Try.call9 rfl (known20_ok _) rfl ?_
      rintro _ w ⟨rfl, m⟩
      replace M := M.call0 m; clear m
      refine WL.assign rfl rfl ?_
      refine WL.nil ?_
      refine WX.next ?_
      refine W.sub [(6, _)] (.cons rfl .nil) ?_
      refine W.ret ?_
      refine WX.thenRet ?_
      refine WX.ret1 rfl rfl ?_
      exact ⟨by simp, M.sel (by first | ((repeat (first | with_reducible exact Sel.refl | with_reducible exact Sel.nil | with_reducible exact Del.here | with_reducible apply Del.there | with_reducible apply Sel.cons | with_reducible apply Sel.drop)); done) | (repeat (first | exact Sel.refl | exact Sel.nil | exact Del.here | apply Del.there | apply Sel.cons | apply Sel.drop)))⟩
    · refine WL.on rfl rfl ?_
      refine WL.move rfl rfl ?_
      refine WL.on rfl rfl ?_
      refine WL.len Try.underlying25 rfl rfl ?_
      refine WL.on rfl rfl ?_
      refine WL.gtr rfl rfl rfl ?_
      refine WL.pickF rfl rfl rfl ?_
      refine WL.moveIf rfl rfl (fun c1 => ?_) (fun c1 => ?_)
      · refine WL.off rfl rfl rfl rfl ?_
        refine WL.off rfl rfl rfl rfl ?_
        refine WL.off rfl rfl rfl rfl ?_
        refine WL.pickT rfl rfl rfl ?_
        refine WL.nil ?_
        refine WX.next ?_
        refine W.sub [(1, _), (2, _), (3, _), (34, _)] (.cons rfl (.cons rfl (.cons rfl (.cons rfl .nil)))) ?_
        refine W.condT rfl ?_
        refine W.seq ?_
        refine W.region ?_
        refine WL.call Try.call9 rfl (known20_ok _) rfl ?_
        rintro _ w ⟨rfl, m⟩
        replace M := M.call0 m; clear m
        refine WL.assign rfl rfl ?_
        refine WL.nil ?_
        refine WX.next ?_
        refine W.sub [(6, _)] (.cons rfl .nil) ?_
        refine W.ret ?_
        refine WX.thenRet ?_
        refine WX.ret1 rfl rfl ?_
        exact ⟨by simp, M.sel (by first | ((repeat (first | with_reducible exact Sel.refl | with_reducible exact Sel.nil | with_reducible exact Del.here | with_reducible apply Del.there | with_reducible apply Sel.cons | with_reducible apply Sel.drop)); done) | (repeat (first | exact Sel.refl | exact Sel.nil | exact Del.here | apply Del.there | apply Sel.cons | apply Sel.drop)))⟩
      · refine WL.on rfl rfl ?_
        refine WL.move rfl rfl ?_
        refine WL.on rfl rfl ?_
        refine WL.len Try.underlying25 rfl rfl ?_
        refine WL.on rfl rfl ?_
        refine WL.gtr rfl rfl rfl ?_
        refine WL.pickF rfl rfl rfl ?_
        refine WL.nil ?_
        refine WX.next ?_
        refine W.sub [(1, _), (2, _), (3, _), (34, _)] (.cons rfl (.cons rfl (.cons rfl (.cons rfl .nil)))) ?_
        refine W.ite rfl (fun c2 => ?_) (fun c2 => ?_)
        · refine W.seq ?_
          refine W.region ?_
          refine WL.call Try.call9 rfl (known20_ok _) rfl ?_
          rintro _ w ⟨rfl, m⟩
          replace M := M.call0 m; clear m
          refine WL.assign rfl rfl ?_
          refine WL.nil ?_
          refine WX.next ?_
          refine W.sub [(6, _)] (.cons rfl .nil) ?_
          refine W.ret ?_
          refine WX.thenRet ?_
          refine WX.ret1 rfl rfl ?_
          exact ⟨by simp, M.sel (by first | ((repeat (first | with_reducible exact Sel.refl | with_reducible exact Sel.nil | with_reducible exact Del.here | with_reducible apply Del.there | with_reducible apply Sel.cons | with_reducible apply Sel.drop)); done) | (repeat (first | exact Sel.refl | exact Sel.nil | exact Del.here | apply Del.there | apply Sel.cons | apply Sel.drop)))⟩
        · refine W.skip ?_
          refine WX.join (()) (by (repeat' (first | exact envSub.nil | refine envSub.cons ?_ ?_)) <;> first | rfl | (refine congrArg some ?_; refine congrArg (Value.int _) ?_; first | omega | (dsimp only; omega)) | (simp; done) | (refine congrArg some ?_; dsimp only; congr 1; omega) | (simp; omega)) ⟨M.sel (by first | ((repeat (first | with_reducible exact Sel.refl | with_reducible exact Sel.nil | with_reducible exact Del.here | with_reducible apply Del.there | with_reducible apply Sel.cons | with_reducible apply Sel.drop)); done) | (repeat (first | exact Sel.refl | exact Sel.nil | exact Del.here | apply Del.there | apply Sel.cons | apply Sel.drop))), ⟨by omega, by omega, by omega⟩⟩
  clear M; rintro (_) w ⟨M, ⟨q0, q1, q2⟩⟩; dsimp only at M q0 q1 q2 ⊢
  refine W.sub [(1, _), (2, _), (3, _)] (.cons rfl (.cons rfl (.cons rfl .nil))) ?_
  refine W.seq ?_
  refine W.region ?_
  refine WL.loadW Try.isAgg27 Try.sizeOf27 rfl M (by first | ((repeat (first | with_reducible exact Has.here | with_reducible refine Has.there ?_)); done) | (repeat (first | exact Has.here | refine Has.there ?_))) rfl rfl ?_
  refine WL.call Try.call11 rfl (Put_ok ⟨op, now, flags, lun, tag, ws, ⟨A, cap, l⟩⟩ _ (hb.mem M) hi (by show l.length ≤ 1000000; omega)) rfl ?_
  rintro _ w ⟨⟨B, cB, x⟩, rfl, m, hx1, hx2⟩
  replace M := M.call1 m; clear m
  unfold OX.v
  unfold OX.O at M
  dsimp only at hx1 hx2 M ⊢
  refine WL.move rfl rfl ?_
  refine WL.extractL rfl rfl rfl ?_
  refine WL.extractL rfl rfl rfl ?_
  refine WL.assign rfl rfl ?_
  refine WL.assign rfl rfl ?_
  refine WL.nil ?_
  refine WX.next ?_
  refine W.sub [(1, _), (2, _), (3, _), (7, _), (8, _)] (.cons rfl (.cons rfl (.cons rfl (.cons rfl (.cons rfl .nil))))) ?_
  refine W.seq ?_
  refine W.seq ?_
  refine W.region ?_
  refine WL.move rfl rfl ?_
  refine WL.eqI rfl rfl rfl ?_
  refine WL.moveIf rfl rfl (fun c3 => ?_) (fun c3 => ?_)
  · refine WL.on rfl rfl ?_
    refine WL.move rfl rfl ?_
    refine WL.on rfl rfl ?_
    refine WL.len Try.underlying25 rfl rfl ?_
    refine WL.on rfl rfl ?_
    refine WL.eqI rfl rfl rfl ?_
    refine WL.pickT rfl rfl rfl ?_
    refine WL.nil ?_
    refine WX.next ?_
    refine W.sub [(1, _), (2, _), (3, _), (7, _), (8, _), (47, _)] (.cons rfl (.cons rfl (.cons rfl (.cons rfl (.cons rfl (.cons rfl .nil)))))) ?_
    refine W.ite rfl (fun c4 => ?_) (fun c4 => ?_)
    · exact absurd c4 (by have e1 := hx1 (by omega); have e2 := putM_length (PdX.m ⟨op, now, flags, lun, tag, ws, ⟨A, cap, l⟩⟩); rw [← e1] at e2; omega)
    · refine W.skip ?_
      refine WX.next ?_
      refine W.joint (fun (_ : Unit) => [(2, .slice A2 l2.length c2')]) (fun j w => Mem w0 w ((fun _ => []) j) ∧ (fun _ => True) j) ?_ ?_
      · refine W.seq ?_
        refine W.region ?_
        refine WL.move rfl rfl ?_
        refine WL.eqI rfl rfl rfl ?_
        refine WL.nil ?_
        refine WX.next ?_
        refine W.sub [(1, _), (2, _), (3, _), (7, _), (49, _)] (.cons rfl (.cons rfl (.cons rfl (.cons rfl (.cons rfl .nil))))) ?_
        refine W.ite rfl (fun c5 => ?_) (fun c5 => ?_)
        · obtain ⟨P, hP⟩ : ∃ P, P = PdX.m ⟨op, now, flags, lun, tag, ws, ⟨A, cap, l⟩⟩ := ⟨_, rfl⟩
          have hc0 : chkM P.op P.now P.l.length = 0 := by rw [hP]; exact c5
          have hxe := hx1 c5
          rw [← hP] at hxe hi
          subst hxe
          have hPl : P.l.length = l.length := by rw [hP]; rfl
          have hpl := putM_length P
          have hpm := putM_mod P
          obtain ⟨g0, gE⟩ := get_put P hi hc0 l1
          obtain ⟨hs, -⟩ := hdM_put P hi hc0 l1
          have hct := get_cut P hi hc0 ((putM P).length - 1) (by omega)
          have hBl : (putM P).length ≤ cB := Rd.le (M.rdB (by first | ((repeat (first | with_reducible exact Has.here | with_reducible refine Has.there ?_)); done) | (repeat (first | exact Has.here | refine Has.there ?_))) : RdB w B cB (putM P))
          have hpd : padN P.l.length ≤ 3 := by unfold padN; omega
          refine W.seq ?_
          refine W.region ?_
          refine WL.move rfl rfl ?_
          refine WL.call Try.call20 rfl (Copy_ok (by first | first | with_reducible assumption | with_reducible exact RdB.mem (by with_reducible assumption) M | exact M.rdB (by first | ((repeat (first | with_reducible exact Has.here | with_reducible refine Has.there ?_)); done) | (repeat (first | exact Has.here | refine Has.there ?_))) | exact RdH.at (by assumption) (M.sel (by first | ((repeat (first | with_reducible exact Sel.refl | with_reducible exact Sel.nil | with_reducible exact Del.here | with_reducible apply Del.there | with_reducible apply Sel.cons | with_reducible apply Sel.drop)); done) | (repeat (first | exact Sel.refl | exact Sel.nil | exact Del.here | apply Del.there | apply Sel.cons | apply Sel.drop)))) | exact M.rdLit' (by first | ((repeat (first | with_reducible exact Has.here | with_reducible refine Has.there ?_)); done) | (repeat (first | exact Has.here | refine Has.there ?_))) | exact M.rdLent (by first | ((repeat (first | with_reducible exact Has.here | with_reducible refine Has.there ?_)); done) | (repeat (first | exact Has.here | refine Has.there ?_))) | exact RdB.nil _ _ | exact RdB.sub (by first | with_reducible assumption | with_reducible exact RdB.mem (by with_reducible assumption) M | exact M.rdB (by first | ((repeat (first | with_reducible exact Has.here | with_reducible refine Has.there ?_)); done) | (repeat (first | exact Has.here | refine Has.there ?_))) | exact RdH.at (by assumption) (M.sel (by first | ((repeat (first | with_reducible exact Sel.refl | with_reducible exact Sel.nil | with_reducible exact Del.here | with_reducible apply Del.there | with_reducible apply Sel.cons | with_reducible apply Sel.drop)); done) | (repeat (first | exact Sel.refl | exact Sel.nil | exact Del.here | apply Del.there | apply Sel.cons | apply Sel.drop)))) | exact M.rdLit' (by first | ((repeat (first | with_reducible exact Has.here | with_reducible refine Has.there ?_)); done) | (repeat (first | exact Has.here | refine Has.there ?_))) | exact M.rdLent (by first | ((repeat (first | with_reducible exact Has.here | with_reducible refine Has.there ?_)); done) | (repeat (first | exact Has.here | refine Has.there ?_))) | exact RdB.nil _ _) (by omega) (by omega) | exact RdB.pre' (by first | with_reducible assumption | with_reducible exact RdB.mem (by with_reducible assumption) M | exact M.rdB (by first | ((repeat (first | with_reducible exact Has.here | with_reducible refine Has.there ?_)); done) | (repeat (first | exact Has.here | refine Has.there ?_))) | exact RdH.at (by assumption) (M.sel (by first | ((repeat (first | with_reducible exact Sel.refl | with_reducible exact Sel.nil | with_reducible exact Del.here | with_reducible apply Del.there | with_reducible apply Sel.cons | with_reducible apply Sel.drop)); done) | (repeat (first | exact Sel.refl | exact Sel.nil | exact Del.here | apply Del.there | apply Sel.cons | apply Sel.drop)))) | exact M.rdLit' (by first | ((repeat (first | with_reducible exact Has.here | with_reducible refine Has.there ?_)); done) | (repeat (first | exact Has.here | refine Has.there ?_))) | exact M.rdLent (by first | ((repeat (first | with_reducible exact Has.here | with_reducible refine Has.there ?_)); done) | (repeat (first | exact Has.here | refine Has.there ?_))) | exact RdB.nil _ _) (by omega) | exact RdB.suf (by first | with_reducible assumption | with_reducible exact RdB.mem (by with_reducible assumption) M | exact M.rdB (by first | ((repeat (first | with_reducible exact Has.here | with_reducible refine Has.there ?_)); done) | (repeat (first | exact Has.here | refine Has.there ?_))) | exact RdH.at (by assumption) (M.sel (by first | ((repeat (first | with_reducible exact Sel.refl | with_reducible exact Sel.nil | with_reducible exact Del.here | with_reducible apply Del.there | with_reducible apply Sel.cons | with_reducible apply Sel.drop)); done) | (repeat (first | exact Sel.refl | exact Sel.nil | exact Del.here | apply Del.there | apply Sel.cons | apply Sel.drop)))) | exact M.rdLit' (by first | ((repeat (first | with_reducible exact Has.here | with_reducible refine Has.there ?_)); done) | (repeat (first | exact Has.here | refine Has.there ?_))) | exact M.rdLent (by first | ((repeat (first | with_reducible exact Has.here | with_reducible refine Has.there ?_)); done) | (repeat (first | exact Has.here | refine Has.there ?_))) | exact RdB.nil _ _) (by omega)) (by omega)) rfl ?_
          rintro _ w ⟨A7_1, cap7_1, rfl, m⟩
          replace M := M.call1 m; clear m
          refine WL.assign rfl rfl ?_
          refine WL.nil ?_
          refine WX.next ?_
          refine W.sub [(1, _), (2, _), (3, _), (7, _), (9, _)] (.cons rfl (.cons rfl (.cons rfl (.cons rfl (.cons rfl .nil))))) ?_
          refine W.seq ?_
          refine W.region ?_
          refine WL.move rfl rfl ?_
          refine WL.move rfl rfl ?_
          refine WL.appendBH Try.elem5 rfl rfl M (by first | ((repeat (first | with_reducible exact Del.here | with_reducible apply Del.there)); done) | (repeat (first | exact Del.here | apply Del.there))) (by first | first | with_reducible assumption | with_reducible exact RdB.mem (by with_reducible assumption) M | exact M.rdB (by first | ((repeat (first | with_reducible exact Has.here | with_reducible refine Has.there ?_)); done) | (repeat (first | exact Has.here | refine Has.there ?_))) | exact RdH.at (by assumption) (M.sel (by first | ((repeat (first | with_reducible exact Sel.refl | with_reducible exact Sel.nil | with_reducible exact Del.here | with_reducible apply Del.there | with_reducible apply Sel.cons | with_reducible apply Sel.drop)); done) | (repeat (first | exact Sel.refl | exact Sel.nil | exact Del.here | apply Del.there | apply Sel.cons | apply Sel.drop)))) | exact M.rdLit' (by first | ((repeat (first | with_reducible exact Has.here | with_reducible refine Has.there ?_)); done) | (repeat (first | exact Has.here | refine Has.there ?_))) | exact M.rdLent (by first | ((repeat (first | with_reducible exact Has.here | with_reducible refine Has.there ?_)); done) | (repeat (first | exact Has.here | refine Has.there ?_))) | exact RdB.nil _ _ | exact RdB.sub (by first | with_reducible assumption | with_reducible exact RdB.mem (by with_reducible assumption) M | exact M.rdB (by first | ((repeat (first | with_reducible exact Has.here | with_reducible refine Has.there ?_)); done) | (repeat (first | exact Has.here | refine Has.there ?_))) | exact RdH.at (by assumption) (M.sel (by first | ((repeat (first | with_reducible exact Sel.refl | with_reducible exact Sel.nil | with_reducible exact Del.here | with_reducible apply Del.there | with_reducible apply Sel.cons | with_reducible apply Sel.drop)); done) | (repeat (first | exact Sel.refl | exact Sel.nil | exact Del.here | apply Del.there | apply Sel.cons | apply Sel.drop)))) | exact M.rdLit' (by first | ((repeat (first | with_reducible exact Has.here | with_reducible refine Has.there ?_)); done) | (repeat (first | exact Has.here | refine Has.there ?_))) | exact M.rdLent (by first | ((repeat (first | with_reducible exact Has.here | with_reducible refine Has.there ?_)); done) | (repeat (first | exact Has.here | refine Has.there ?_))) | exact RdB.nil _ _) (by omega) (by omega) | exact RdB.pre' (by first | with_reducible assumption | with_reducible exact RdB.mem (by with_reducible assumption) M | exact M.rdB (by first | ((repeat (first | with_reducible exact Has.here | with_reducible refine Has.there ?_)); done) | (repeat (first | exact Has.here | refine Has.there ?_))) | exact RdH.at (by assumption) (M.sel (by first | ((repeat (first | with_reducible exact Sel.refl | with_reducible exact Sel.nil | with_reducible exact Del.here | with_reducible apply Del.there | with_reducible apply Sel.cons | with_reducible apply Sel.drop)); done) | (repeat (first | exact Sel.refl | exact Sel.nil | exact Del.here | apply Del.there | apply Sel.cons | apply Sel.drop)))) | exact M.rdLit' (by first | ((repeat (first | with_reducible exact Has.here | with_reducible refine Has.there ?_)); done) | (repeat (first | exact Has.here | refine Has.there ?_))) | exact M.rdLent (by first | ((repeat (first | with_reducible exact Has.here | with_reducible refine Has.there ?_)); done) | (repeat (first | exact Has.here | refine Has.there ?_))) | exact RdB.nil _ _) (by omega) | exact RdB.suf (by first | with_reducible assumption | with_reducible exact RdB.mem (by with_reducible assumption) M | exact M.rdB (by first | ((repeat (first | with_reducible exact Has.here | with_reducible refine Has.there ?_)); done) | (repeat (first | exact Has.here | refine Has.there ?_))) | exact RdH.at (by assumption) (M.sel (by first | ((repeat (first | with_reducible exact Sel.refl | with_reducible exact Sel.nil | with_reducible exact Del.here | with_reducible apply Del.there | with_reducible apply Sel.cons | with_reducible apply Sel.drop)); done) | (repeat (first | exact Sel.refl | exact Sel.nil | exact Del.here | apply Del.there | apply Sel.cons | apply Sel.drop)))) | exact M.rdLit' (by first | ((repeat (first | with_reducible exact Has.here | with_reducible refine Has.there ?_)); done) | (repeat (first | exact Has.here | refine Has.there ?_))) | exact M.rdLent (by first | ((repeat (first | with_reducible exact Has.here | with_reducible refine Has.there ?_)); done) | (repeat (first | exact Has.here | refine Has.there ?_))) | exact RdB.nil _ _) (by omega)) rfl rfl (by first | omega | (simp; done) | (simp; omega)) rfl ?_
          intro A8_2 cap8_2 w M
          refine WL.assign rfl rfl ?_
          refine WL.nil ?_
          refine WX.next ?_
          refine W.sub [(2, _), (3, _), (7, _), (9, _)] (.cons rfl (.cons rfl (.cons rfl (.cons rfl .nil)))) ?_
          refine W.seq ?_
          refine W.region ?_
          refine WL.move rfl rfl ?_
          refine WL.call Try.call21 rfl (Get_ok (b := putM P ++ l1) (by rw [List.length_append]; omega) (M.rdB (by first | ((repeat (first | with_reducible exact Has.here | with_reducible refine Has.there ?_)); done) | (repeat (first | exact Has.here | refine Has.there ?_))))) rfl ?_
          rintro _ w ⟨⟨op', now', flags', lun', tag', ws', ⟨C, cC, c⟩⟩, rfl, m, hg, -⟩
          replace M := M.call1 m; clear m
          have hg2 := hg g0
          rw [g0, gE, if_pos rfl]
          unfold PdX.v
          unfold PdX.O OX.O at M
          dsimp only at M ⊢
          refine WL.move rfl rfl ?_
          refine WL.extractL rfl rfl rfl ?_
          refine WL.extractL rfl rfl rfl ?_
          refine WL.extractL rfl rfl rfl ?_
          refine WL.alloc Try.zeroValue27 M rfl ?_
          intro g9_6 w M
          try simp only [Value.cells] at M
          try simp only [List.toList_toArray] at M
          refine WL.storeWA Try.sizeOf27 rfl rfl (by repeat (first | exact oneNil | refine oneCons rfl ?_)) rfl rfl M (by first | ((repeat (first | with_reducible exact Upd.here | with_reducible apply Upd.there)); done) | (repeat (first | exact Upd.here | apply Upd.there))) ?_
          intro w M
          refine WL.assign rfl rfl ?_
          refine WL.assign rfl rfl ?_
          refine WL.nil ?_
          refine WX.next ?_
          refine W.sub [(2, _), (3, _), (7, _), (10, _), (11, _), (12, _)] (.cons rfl (.cons rfl (.cons rfl (.cons rfl (.cons rfl (.cons rfl .nil)))))) ?_
          refine W.seq ?_
          refine W.region ?_
          refine WL.move rfl rfl ?_
          refine WL.move rfl rfl ?_
          refine WL.len Try.underlying25 rfl rfl ?_
          refine WL.sub' rfl rfl (by first | exact wI64 (by omega) | rfl) rfl ?_
          refine WL.cutH (m' := ((putM P).take ((putM P).length - 1)).length) Try.underlying25 Try.sizeOf5 rfl rfl (by omega) (by omega) (by first | (rw [sub_length (by omega) (by omega)]) | (simp only [List.length_drop] <;> omega) | (simp only [List.length_take] <;> omega) | (simp only [List.length_take, List.length_drop] <;> omega) | (simp; done) | (simp; omega)) rfl ?_
          refine WL.call Try.call21 rfl (Get_ok (b := (putM P).take ((putM P).length - 1)) (by rw [List.length_take]; omega) (by first | first | with_reducible assumption | with_reducible exact RdB.mem (by with_reducible assumption) M | exact M.rdB (by first | ((repeat (first | with_reducible exact Has.here | with_reducible refine Has.there ?_)); done) | (repeat (first | exact Has.here | refine Has.there ?_))) | exact RdH.at (by assumption) (M.sel (by first | ((repeat (first | with_reducible exact Sel.refl | with_reducible exact Sel.nil | with_reducible exact Del.here | with_reducible apply Del.there | with_reducible apply Sel.cons | with_reducible apply Sel.drop)); done) | (repeat (first | exact Sel.refl | exact Sel.nil | exact Del.here | apply Del.there | apply Sel.cons | apply Sel.drop)))) | exact M.rdLit' (by first | ((repeat (first | with_reducible exact Has.here | with_reducible refine Has.there ?_)); done) | (repeat (first | exact Has.here | refine Has.there ?_))) | exact M.rdLent (by first | ((repeat (first | with_reducible exact Has.here | with_reducible refine Has.there ?_)); done) | (repeat (first | exact Has.here | refine Has.there ?_))) | exact RdB.nil _ _ | exact RdB.sub (by first | with_reducible assumption | with_reducible exact RdB.mem (by with_reducible assumption) M | exact M.rdB (by first | ((repeat (first | with_reducible exact Has.here | with_reducible refine Has.there ?_)); done) | (repeat (first | exact Has.here | refine Has.there ?_))) | exact RdH.at (by assumption) (M.sel (by first | ((repeat (first | with_reducible exact Sel.refl | with_reducible exact Sel.nil | with_reducible exact Del.here | with_reducible apply Del.there | with_reducible apply Sel.cons | with_reducible apply Sel.drop)); done) | (repeat (first | exact Sel.refl | exact Sel.nil | exact Del.here | apply Del.there | apply Sel.cons | apply Sel.drop)))) | exact M.rdLit' (by first | ((repeat (first | with_reducible exact Has.here | with_reducible refine Has.there ?_)); done) | (repeat (first | exact Has.here | refine Has.there ?_))) | exact M.rdLent (by first | ((repeat (first | with_reducible exact Has.here | with_reducible refine Has.there ?_)); done) | (repeat (first | exact Has.here | refine Has.there ?_))) | exact RdB.nil _ _) (by omega) (by omega) | exact RdB.pre' (by first | with_reducible assumption | with_reducible exact RdB.mem (by with_reducible assumption) M | exact M.rdB (by first | ((repeat (first | with_reducible exact Has.here | with_reducible refine Has.there ?_)); done) | (repeat (first | exact Has.here | refine Has.there ?_))) | exact RdH.at (by assumption) (M.sel (by first | ((repeat (first | with_reducible exact Sel.refl | with_reducible exact Sel.nil | with_reducible exact Del.here | with_reducible apply Del.there | with_reducible apply Sel.cons | with_reducible apply Sel.drop)); done) | (repeat (first | exact Sel.refl | exact Sel.nil | exact Del.here | apply Del.there | apply Sel.cons | apply Sel.drop)))) | exact M.rdLit' (by first | ((repeat (first | with_reducible exact Has.here | with_reducible refine Has.there ?_)); done) | (repeat (first | exact Has.here | refine Has.there ?_))) | exact M.rdLent (by first | ((repeat (first | with_reducible exact Has.here | with_reducible refine Has.there ?_)); done) | (repeat (first | exact Has.here | refine Has.there ?_))) | exact RdB.nil _ _) (by omega) | exact RdB.suf (by first | with_reducible assumption | with_reducible exact RdB.mem (by with_reducible assumption) M | exact M.rdB (by first | ((repeat (first | with_reducible exact Has.here | with_reducible refine Has.there ?_)); done) | (repeat (first | exact Has.here | refine Has.there ?_))) | exact RdH.at (by assumption) (M.sel (by first | ((repeat (first | with_reducible exact Sel.refl | with_reducible exact Sel.nil | with_reducible exact Del.here | with_reducible apply Del.there | with_reducible apply Sel.cons | with_reducible apply Sel.drop)); done) | (repeat (first | exact Sel.refl | exact Sel.nil | exact Del.here | apply Del.there | apply Sel.cons | apply Sel.drop)))) | exact M.rdLit' (by first | ((repeat (first | with_reducible exact Has.here | with_reducible refine Has.there ?_)); done) | (repeat (first | exact Has.here | refine Has.there ?_))) | exact M.rdLent (by first | ((repeat (first | with_reducible exact Has.here | with_reducible refine Has.there ?_)); done) | (repeat (first | exact Has.here | refine Has.there ?_))) | exact RdB.nil _ _) (by omega))) rfl ?_
          rintro _ w ⟨⟨op'', now'', flags'', lun'', tag'', ws'', ⟨D, cD, d⟩⟩, rfl, m, -, -⟩
          replace M := M.call1 m; clear m
          rw [hct]
          unfold PdX.v
          unfold PdX.O OX.O at M
          dsimp only at M ⊢
          refine WL.move rfl rfl ?_
          refine WL.extractL rfl rfl rfl ?_
          refine WL.extractL rfl rfl rfl ?_
          refine WL.extractL rfl rfl rfl ?_
          refine WL.alloc Try.zeroValue27 M rfl ?_
          intro g10_10 w M
          try simp only [Value.cells] at M
          try simp only [List.toList_toArray] at M
          refine WL.storeWA Try.sizeOf27 rfl rfl (by repeat (first | exact oneNil | refine oneCons rfl ?_)) rfl rfl M (by first | ((repeat (first | with_reducible exact Upd.here | with_reducible apply Upd.there)); done) | (repeat (first | exact Upd.here | apply Upd.there))) ?_
          intro w M
          refine WL.assign rfl rfl ?_
          refine WL.assign rfl rfl ?_
          refine WL.nil ?_
          refine WX.next ?_
          refine W.sub [(2, _), (3, _), (7, _), (10, _), (11, _), (12, _), (15, _)] (.cons rfl (.cons rfl (.cons rfl (.cons rfl (.cons rfl (.cons rfl (.cons rfl .nil))))))) ?_
          refine W.seq ?_
          refine W.region ?_
          refine WL.move rfl rfl ?_
          refine WL.neI rfl rfl rfl ?_
          refine WL.moveIf rfl rfl (fun c6 => ?_) (fun c6 => ?_)
          · exact absurd rfl c6
          · refine WL.on rfl rfl ?_
            refine WL.move rfl rfl ?_
            refine WL.on rfl rfl ?_
            refine WL.move rfl rfl ?_
            refine WL.on rfl rfl ?_
            refine WL.len Try.underlying25 rfl rfl ?_
            refine WL.on rfl rfl ?_
            refine WL.neI rfl rfl rfl ?_
            refine WL.pickF rfl rfl rfl ?_
            refine WL.moveIf rfl rfl (fun c7 => ?_) (fun c7 => ?_)
            · exact absurd rfl c7
            · refine WL.on rfl rfl ?_
              refine WL.loadW Try.isAgg27 Try.sizeOf27 rfl M (by first | ((repeat (first | with_reducible exact Has.here | with_reducible refine Has.there ?_)); done) | (repeat (first | exact Has.here | refine Has.there ?_))) rfl rfl ?_
              refine WL.on rfl rfl ?_
              refine WL.loadW Try.isAgg27 Try.sizeOf27 rfl M (by first | ((repeat (first | with_reducible exact Has.here | with_reducible refine Has.there ?_)); done) | (repeat (first | exact Has.here | refine Has.there ?_))) rfl rfl ?_
              refine WL.on rfl rfl ?_
              refine WL.call Try.call22 rfl (SameR_ok ⟨op, now, flags, lun, tag, ws, ⟨A, cap, l⟩⟩ ⟨op', now', flags', lun', tag', ws', ⟨C, cC, c⟩⟩ (hb.mem M) (M.rdB (by first | ((repeat (first | with_reducible exact Has.here | with_reducible refine Has.there ?_)); done) | (repeat (first | exact Has.here | refine Has.there ?_))))) rfl ?_
              rintro _ w ⟨rfl, m⟩
              replace M := M.call0 m; clear m
              refine WL.on rfl rfl ?_
              refine WL.notP rfl rfl ?_
              refine WL.pickF rfl rfl rfl ?_
              refine WL.moveIf rfl rfl (fun c8 => ?_) (fun c8 => ?_)
              · exact absurd (by rw [← hP, hg2]; exact hs) c8
              · refine WL.on rfl rfl ?_
                refine WL.move rfl rfl ?_
                refine WL.on rfl rfl ?_
                refine WL.len Try.underlying25 rfl rfl ?_
                refine WL.on rfl rfl ?_
                refine WL.rem rfl rfl (by omega) (remN (by omega)) rfl ?_
                refine WL.on rfl rfl ?_
                refine WL.neI rfl rfl rfl ?_
                refine WL.pickF rfl rfl rfl ?_
                refine WL.moveIf rfl rfl (fun c9 => ?_) (fun c9 => ?_)
                · exact absurd (by omega) c9
                · refine WL.on rfl rfl ?_
                  refine WL.move rfl rfl ?_
                  refine WL.on rfl rfl ?_
                  refine WL.neI rfl rfl rfl ?_
                  refine WL.pickF rfl rfl rfl ?_
                  refine WL.nil ?_
                  refine WX.next ?_
                  refine W.sub [(2, _), (94, _)] (.cons rfl (.cons rfl .nil)) ?_
                  refine W.ite rfl (fun c10 => ?_) (fun c10 => ?_)
                  · exact absurd rfl c10
                  · refine W.skip ?_
                    refine WX.join (()) (by (repeat' (first | exact envSub.nil | refine envSub.cons ?_ ?_)) <;> first | rfl | (refine congrArg some ?_; refine congrArg (Value.int _) ?_; first | omega | (dsimp only; omega)) | (simp; done) | (refine congrArg some ?_; dsimp only; congr 1; omega) | (simp; omega)) ⟨M.sel (by first | ((repeat (first | with_reducible exact Sel.refl | with_reducible exact Sel.nil | with_reducible exact Del.here | with_reducible apply Del.there | with_reducible apply Sel.cons | with_reducible apply Sel.drop)); done) | (repeat (first | exact Sel.refl | exact Sel.nil | exact Del.here | apply Del.there | apply Sel.cons | apply Sel.drop))), (by first | trivial | omega | (dsimp only; omega) | (simp; done))⟩
        · refine W.skip ?_
          refine WX.join (()) (by (repeat' (first | exact envSub.nil | refine envSub.cons ?_ ?_)) <;> first | rfl | (refine congrArg some ?_; refine congrArg (Value.int _) ?_; first | omega | (dsimp only; omega)) | (simp; done) | (refine congrArg some ?_; dsimp only; congr 1; omega) | (simp; omega)) ⟨M.sel (by first | ((repeat (first | with_reducible exact Sel.refl | with_reducible exact Sel.nil | with_reducible exact Del.here | with_reducible apply Del.there | with_reducible apply Sel.cons | with_reducible apply Sel.drop)); done) | (repeat (first | exact Sel.refl | exact Sel.nil | exact Del.here | apply Del.there | apply Sel.cons | apply Sel.drop))), (by first | trivial | omega | (dsimp only; omega) | (simp; done))⟩
      clear M; rintro (_) w ⟨M, -⟩; dsimp only at M ⊢
      refine W.sub [(2, _)] (.cons rfl .nil) ?_
      refine W.seq ?_
      refine W.region ?_
      refine WL.move rfl rfl ?_
      refine WL.call Try.call21 rfl (Get_ok (b := l2) (by omega) (h2.mem M)) rfl ?_
      rintro _ w ⟨⟨op', now', flags', lun', tag', ws', ⟨C, cC, c⟩⟩, rfl, m, hg, hg2⟩
      replace M := M.call1 m; clear m
      unfold PdX.v
      unfold PdX.O OX.O at M
      dsimp only at M ⊢
      refine WL.move rfl rfl ?_
      refine WL.extractL rfl rfl rfl ?_
      refine WL.extractL rfl rfl rfl ?_
      refine WL.extractL rfl rfl rfl ?_
      refine WL.alloc Try.zeroValue27 M rfl ?_
      intro g13_6 w M
      try simp only [Value.cells] at M
      try simp only [List.toList_toArray] at M
      refine WL.storeWA Try.sizeOf27 rfl rfl (by repeat (first | exact oneNil | refine oneCons rfl ?_)) rfl rfl M (by first | ((repeat (first | with_reducible exact Upd.here | with_reducible apply Upd.there)); done) | (repeat (first | exact Upd.here | apply Upd.there))) ?_
      intro w M
      refine WL.assign rfl rfl ?_
      refine WL.assign rfl rfl ?_
      refine WL.nil ?_
      refine WX.next ?_
      refine W.sub [(2, _), (16, _), (17, _), (18, _)] (.cons rfl (.cons rfl (.cons rfl (.cons rfl .nil)))) ?_
      refine W.seq ?_
      refine W.seq ?_
      refine W.region ?_
      refine WL.move rfl rfl ?_
      refine WL.neI rfl rfl rfl ?_
      refine WL.nil ?_
      refine WX.next ?_
      refine W.sub [(2, _), (16, _), (17, _), (102, _)] (.cons rfl (.cons rfl (.cons rfl (.cons rfl .nil)))) ?_
      refine W.ite rfl (fun c11 => ?_) (fun c11 => ?_)
      · have hgz := hg2 c11
        rw [if_neg c11]
        have hcl : c = [] := congrArg MX.l hgz
        subst hcl
        refine W.seq ?_
        refine W.region ?_
        refine WL.move rfl rfl ?_
        refine WL.eqI rfl rfl rfl ?_
        refine WL.moveIf rfl rfl (fun c12 => ?_) (fun c12 => ?_)
        · refine WL.on rfl rfl ?_
          refine WL.fieldR (off := 12) Try.underlying27 rfl rfl Try.sizeOf25 rfl rfl rfl ?_
          refine WL.on rfl rfl ?_
          refine WL.loadR Try.isAgg25 rfl M (by first | ((repeat (first | with_reducible exact Has.here | with_reducible refine Has.there ?_)); done) | (repeat (first | exact Has.here | refine Has.there ?_))) rfl rfl ?_
          refine WL.on rfl rfl ?_
          refine WL.len Try.underlying25 rfl rfl ?_
          refine WL.on rfl rfl ?_
          refine WL.eqI rfl rfl rfl ?_
          refine WL.pickT rfl rfl rfl ?_
          refine WL.moveIf rfl rfl (fun c13 => ?_) (fun c13 => ?_)
          · refine WL.on rfl rfl ?_
            refine WL.call Try.call9 rfl (known20_ok _) rfl ?_
            rintro _ w ⟨rfl, m⟩
            replace M := M.call0 m; clear m
            refine WL.pickT rfl rfl rfl ?_
            refine WL.assign rfl rfl ?_
            refine WL.nil ?_
            refine WX.next ?_
            refine W.sub [(6, _)] (.cons rfl .nil) ?_
            refine W.ret ?_
            refine WX.thenRet ?_
            refine WX.ret1 rfl rfl ?_
            exact ⟨by simp, M.sel (by first | ((repeat (first | with_reducible exact Sel.refl | with_reducible exact Sel.nil | with_reducible exact Del.here | with_reducible apply Del.there | with_reducible apply Sel.cons | with_reducible apply Sel.drop)); done) | (repeat (first | exact Sel.refl | exact Sel.nil | exact Del.here | apply Del.there | apply Sel.cons | apply Sel.drop)))⟩
          · exact absurd rfl c13
        · exact absurd rfl c12
      · have hg0 : getE l2 = 0 := Classical.not_not.1 c11
        have hgm := hg hg0
        obtain ⟨e1, e2, e3, e4⟩ := put_get hg0
        rw [← hgm] at e1 e2 e3
        have e5 := hdM_inn l2
        rw [← hgm] at e5
        have e6 := chkM_zero e2
        rw [hg0, if_pos rfl]
        clear hg hg2 hgm
        obtain ⟨E, hE⟩ : ∃ E, endM l2 = E := ⟨_, rfl⟩
        rw [hE] at e1 e4 ⊢
        clear e3 hE
        refine W.skip ?_
        refine WX.next ?_
        refine W.seq ?_
        refine W.region ?_
        refine WL.loadW Try.isAgg27 Try.sizeOf27 rfl M (by first | ((repeat (first | with_reducible exact Has.here | with_reducible refine Has.there ?_)); done) | (repeat (first | exact Has.here | refine Has.there ?_))) rfl rfl ?_
        refine WL.call Try.call11 rfl (Put_ok ⟨op', now', flags', lun', tag', ws', ⟨C, cC, c⟩⟩ _ (M.rdB (by first | ((repeat (first | with_reducible exact Has.here | with_reducible refine Has.there ?_)); done) | (repeat (first | exact Has.here | refine Has.there ?_)))) e5 (by have := e6.2.2; show c.length ≤ 1000000; exact Nat.le_trans this (by decide))) rfl ?_
        rintro _ w ⟨⟨D, cD, z⟩, rfl, m, hz1, -⟩
        replace M := M.call1 m; clear m
        have hz2 := hz1 e2
        dsimp only at hz2
        rw [show chkM (PdX.op ⟨op', now', flags', lun', tag', ws', ⟨C, cC, c⟩⟩) (PdX.now ⟨op', now', flags', lun', tag', ws', ⟨C, cC, c⟩⟩) (OX.l (PdX.x ⟨op', now', flags', lun', tag', ws', ⟨C, cC, c⟩⟩)).length = 0 from e2]
        unfold OX.v
        unfold OX.O at M
        dsimp only at M ⊢
        subst hz2
        refine WL.move rfl rfl ?_
        refine WL.extractL rfl rfl rfl ?_
        refine WL.extractL rfl rfl rfl ?_
        refine WL.assign rfl rfl ?_
        refine WL.assign rfl rfl ?_
        refine WL.nil ?_
        refine WX.next ?_
        refine W.sub [(2, _), (17, _), (19, _), (20, _)] (.cons rfl (.cons rfl (.cons rfl (.cons rfl .nil)))) ?_
        refine W.seq ?_
        refine W.region ?_
        refine WL.move rfl rfl ?_
        refine WL.eqI rfl rfl rfl ?_
        refine WL.moveIf rfl rfl (fun c14 => ?_) (fun c14 => ?_)
        · refine WL.on rfl rfl ?_
          refine WL.move rfl rfl ?_
          refine WL.on rfl rfl ?_
          refine WL.move rfl rfl ?_
          refine WL.on rfl rfl ?_
          refine WL.len Try.underlying25 rfl rfl ?_
          refine WL.on rfl rfl ?_
          refine WL.leq rfl rfl rfl ?_
          refine WL.pickT rfl rfl rfl ?_
          refine WL.moveIf rfl rfl (fun c15 => ?_) (fun c15 => ?_)
          · refine WL.on rfl rfl ?_
            refine WL.move rfl rfl ?_
            refine WL.on rfl rfl ?_
            refine WL.move rfl rfl ?_
            refine WL.on rfl rfl ?_
            refine WL.move rfl rfl ?_
            refine WL.on rfl rfl ?_
            refine WL.cutH (m' := (l2.take E).length) Try.underlying25 Try.sizeOf5 rfl rfl (by omega) (by omega) (by rw [List.length_take, Int.toNat_natCast]; exact (Nat.min_eq_left e4).symm) rfl ?_
            refine WL.on rfl rfl ?_
            refine WL.call Try.call17 rfl (Same_ok (by first | first | with_reducible assumption | with_reducible exact RdB.mem (by with_reducible assumption) M | exact M.rdB (by first | ((repeat (first | with_reducible exact Has.here | with_reducible refine Has.there ?_)); done) | (repeat (first | exact Has.here | refine Has.there ?_))) | exact RdH.at (by assumption) (M.sel (by first | ((repeat (first | with_reducible exact Sel.refl | with_reducible exact Sel.nil | with_reducible exact Del.here | with_reducible apply Del.there | with_reducible apply Sel.cons | with_reducible apply Sel.drop)); done) | (repeat (first | exact Sel.refl | exact Sel.nil | exact Del.here | apply Del.there | apply Sel.cons | apply Sel.drop)))) | exact M.rdLit' (by first | ((repeat (first | with_reducible exact Has.here | with_reducible refine Has.there ?_)); done) | (repeat (first | exact Has.here | refine Has.there ?_))) | exact M.rdLent (by first | ((repeat (first | with_reducible exact Has.here | with_reducible refine Has.there ?_)); done) | (repeat (first | exact Has.here | refine Has.there ?_))) | exact RdB.nil _ _ | exact RdB.sub (by first | with_reducible assumption | with_reducible exact RdB.mem (by with_reducible assumption) M | exact M.rdB (by first | ((repeat (first | with_reducible exact Has.here | with_reducible refine Has.there ?_)); done) | (repeat (first | exact Has.here | refine Has.there ?_))) | exact RdH.at (by assumption) (M.sel (by first | ((repeat (first | with_reducible exact Sel.refl | with_reducible exact Sel.nil | with_reducible exact Del.here | with_reducible apply Del.there | with_reducible apply Sel.cons | with_reducible apply Sel.drop)); done) | (repeat (first | exact Sel.refl | exact Sel.nil | exact Del.here | apply Del.there | apply Sel.cons | apply Sel.drop)))) | exact M.rdLit' (by first | ((repeat (first | with_reducible exact Has.here | with_reducible refine Has.there ?_)); done) | (repeat (first | exact Has.here | refine Has.there ?_))) | exact M.rdLent (by first | ((repeat (first | with_reducible exact Has.here | with_reducible refine Has.there ?_)); done) | (repeat (first | exact Has.here | refine Has.there ?_))) | exact RdB.nil _ _) (by omega) (by omega) | exact RdB.pre' (by first | with_reducible assumption | with_reducible exact RdB.mem (by with_reducible assumption) M | exact M.rdB (by first | ((repeat (first | with_reducible exact Has.here | with_reducible refine Has.there ?_)); done) | (repeat (first | exact Has.here | refine Has.there ?_))) | exact RdH.at (by assumption) (M.sel (by first | ((repeat (first | with_reducible exact Sel.refl | with_reducible exact Sel.nil | with_reducible exact Del.here | with_reducible apply Del.there | with_reducible apply Sel.cons | with_reducible apply Sel.drop)); done) | (repeat (first | exact Sel.refl | exact Sel.nil | exact Del.here | apply Del.there | apply Sel.cons | apply Sel.drop)))) | exact M.rdLit' (by first | ((repeat (first | with_reducible exact Has.here | with_reducible refine Has.there ?_)); done) | (repeat (first | exact Has.here | refine Has.there ?_))) | exact M.rdLent (by first | ((repeat (first | with_reducible exact Has.here | with_reducible refine Has.there ?_)); done) | (repeat (first | exact Has.here | refine Has.there ?_))) | exact RdB.nil _ _) (by omega) | exact RdB.suf (by first | with_reducible assumption | with_reducible exact RdB.mem (by with_reducible assumption) M | exact M.rdB (by first | ((repeat (first | with_reducible exact Has.here | with_reducible refine Has.there ?_)); done) | (repeat (first | exact Has.here | refine Has.there ?_))) | exact RdH.at (by assumption) (M.sel (by first | ((repeat (first | with_reducible exact Sel.refl | with_reducible exact Sel.nil | with_reducible exact Del.here | with_reducible apply Del.there | with_reducible apply Sel.cons | with_reducible apply Sel.drop)); done) | (repeat (first | exact Sel.refl | exact Sel.nil | exact Del.here | apply Del.there | apply Sel.cons | apply Sel.drop)))) | exact M.rdLit' (by first | ((repeat (first | with_reducible exact Has.here | with_reducible refine Has.there ?_)); done) | (repeat (first | exact Has.here | refine Has.there ?_))) | exact M.rdLent (by first | ((repeat (first | with_reducible exact Has.here | with_reducible refine Has.there ?_)); done) | (repeat (first | exact Has.here | refine Has.there ?_))) | exact RdB.nil _ _) (by omega)) (by first | first | with_reducible assumption | with_reducible exact RdB.mem (by with_reducible assumption) M | exact M.rdB (by first | ((repeat (first | with_reducible exact Has.here | with_reducible refine Has.there ?_)); done) | (repeat (first | exact Has.here | refine Has.there ?_))) | exact RdH.at (by assumption) (M.sel (by first | ((repeat (first | with_reducible exact Sel.refl | with_reducible exact Sel.nil | with_reducible exact Del.here | with_reducible apply Del.there | with_reducible apply Sel.cons | with_reducible apply Sel.drop)); done) | (repeat (first | exact Sel.refl | exact Sel.nil | exact Del.here | apply Del.there | apply Sel.cons | apply Sel.drop)))) | exact M.rdLit' (by first | ((repeat (first | with_reducible exact Has.here | with_reducible refine Has.there ?_)); done) | (repeat (first | exact Has.here | refine Has.there ?_))) | exact M.rdLent (by first | ((repeat (first | with_reducible exact Has.here | with_reducible refine Has.there ?_)); done) | (repeat (first | exact Has.here | refine Has.there ?_))) | exact RdB.nil _ _ | exact RdB.sub (by first | with_reducible assumption | with_reducible exact RdB.mem (by with_reducible assumption) M | exact M.rdB (by first | ((repeat (first | with_reducible exact Has.here | with_reducible refine Has.there ?_)); done) | (repeat (first | exact Has.here | refine Has.there ?_))) | exact RdH.at (by assumption) (M.sel (by first | ((repeat (first | with_reducible exact Sel.refl | with_reducible exact Sel.nil | with_reducible exact Del.here | with_reducible apply Del.there | with_reducible apply Sel.cons | with_reducible apply Sel.drop)); done) | (repeat (first | exact Sel.refl | exact Sel.nil | exact Del.here | apply Del.there | apply Sel.cons | apply Sel.drop)))) | exact M.rdLit' (by first | ((repeat (first | with_reducible exact Has.here | with_reducible refine Has.there ?_)); done) | (repeat (first | exact Has.here | refine Has.there ?_))) | exact M.rdLent (by first | ((repeat (first | with_reducible exact Has.here | with_reducible refine Has.there ?_)); done) | (repeat (first | exact Has.here | refine Has.there ?_))) | exact RdB.nil _ _) (by omega) (by omega) | exact RdB.pre' (by first | with_reducible assumption | with_reducible exact RdB.mem (by with_reducible assumption) M | exact M.rdB (by first | ((repeat (first | with_reducible exact Has.here | with_reducible refine Has.there ?_)); done) | (repeat (first | exact Has.here | refine Has.there ?_))) | exact RdH.at (by assumption) (M.sel (by first | ((repeat (first | with_reducible exact Sel.refl | with_reducible exact Sel.nil | with_reducible exact Del.here | with_reducible apply Del.there | with_reducible apply Sel.cons | with_reducible apply Sel.drop)); done) | (repeat (first | exact Sel.refl | exact Sel.nil | exact Del.here | apply Del.there | apply Sel.cons | apply Sel.drop)))) | exact M.rdLit' (by first | ((repeat (first | with_reducible exact Has.here | with_reducible refine Has.there ?_)); done) | (repeat (first | exact Has.here | refine Has.there ?_))) | exact M.rdLent (by first | ((repeat (first | with_reducible exact Has.here | with_reducible refine Has.there ?_)); done) | (repeat (first | exact Has.here | refine Has.there ?_))) | exact RdB.nil _ _) (by omega) | exact RdB.suf (by first | with_reducible assumption | with_reducible exact RdB.mem (by with_reducible assumption) M | exact M.rdB (by first | ((repeat (first | with_reducible exact Has.here | with_reducible refine Has.there ?_)); done) | (repeat (first | exact Has.here | refine Has.there ?_))) | exact RdH.at (by assumption) (M.sel (by first | ((repeat (first | with_reducible exact Sel.refl | with_reducible exact Sel.nil | with_reducible exact Del.here | with_reducible apply Del.there | with_reducible apply Sel.cons | with_reducible apply Sel.drop)); done) | (repeat (first | exact Sel.refl | exact Sel.nil | exact Del.here | apply Del.there | apply Sel.cons | apply Sel.drop)))) | exact M.rdLit' (by first | ((repeat (first | with_reducible exact Has.here | with_reducible refine Has.there ?_)); done) | (repeat (first | exact Has.here | refine Has.there ?_))) | exact M.rdLent (by first | ((repeat (first | with_reducible exact Has.here | with_reducible refine Has.there ?_)); done) | (repeat (first | exact Has.here | refine Has.there ?_))) | exact RdB.nil _ _) (by omega))) rfl ?_
            rintro _ _ ⟨rfl, rfl⟩
            refine WL.pickT rfl rfl rfl ?_
            refine WL.moveIf rfl rfl (fun c16 => ?_) (fun c16 => ?_)
            · refine WL.on rfl rfl ?_
              refine WL.call Try.call9 rfl (known20_ok _) rfl ?_
              rintro _ w ⟨rfl, m⟩
              replace M := M.call0 m; clear m
              refine WL.pickT rfl rfl rfl ?_
              refine WL.assign rfl rfl ?_
              refine WL.nil ?_
              refine WX.next ?_
              refine W.sub [(6, _)] (.cons rfl .nil) ?_
              refine W.ret ?_
              refine WX.ret1 rfl rfl ?_
              exact ⟨by simp, M.sel (by first | ((repeat (first | with_reducible exact Sel.refl | with_reducible exact Sel.nil | with_reducible exact Del.here | with_reducible apply Del.there | with_reducible apply Sel.cons | with_reducible apply Sel.drop)); done) | (repeat (first | exact Sel.refl | exact Sel.nil | exact Del.here | apply Del.there | apply Sel.cons | apply Sel.drop)))⟩
            · exact absurd e1 c16
          · exact absurd (by omega) c15
        · exact absurd rfl c14
  · refine WL.off rfl rfl rfl rfl ?_
    refine WL.off rfl rfl rfl rfl ?_
    refine WL.off rfl rfl rfl rfl ?_
    refine WL.pickF rfl rfl rfl ?_
    refine WL.nil ?_
    refine WX.next ?_
    refine W.sub [(1, _), (2, _), (3, _), (7, _), (8, _), (47, _)] (.cons rfl (.cons rfl (.cons rfl (.cons rfl (.cons rfl (.cons rfl .nil)))))) ?_
    refine W.condF rfl ?_
    refine W.skip ?_
    refine WX.next ?_
    refine W.joint (fun (_ : Unit) => [(2, .slice A2 l2.length c2')]) (fun j w => Mem w0 w ((fun _ => []) j) ∧ (fun _ => True) j) ?_ ?_
    · refine W.seq ?_
      refine W.region ?_
      refine WL.move rfl rfl ?_
      refine WL.eqI rfl rfl rfl ?_
      refine WL.nil ?_
      refine WX.next ?_
      refine W.sub [(1, _), (2, _), (3, _), (7, _), (49, _)] (.cons rfl (.cons rfl (.cons rfl (.cons rfl (.cons rfl .nil))))) ?_
      refine W.ite rfl (fun c5 => ?_) (fun c5 => ?_)
      · obtain ⟨P, hP⟩ : ∃ P, P = PdX.m ⟨op, now, flags, lun, tag, ws, ⟨A, cap, l⟩⟩ := ⟨_, rfl⟩
        have hc0 : chkM P.op P.now P.l.length = 0 := by rw [hP]; exact c5
        have hxe := hx1 c5
        rw [← hP] at hxe hi
        subst hxe
        have hPl : P.l.length = l.length := by rw [hP]; rfl
        have hpl := putM_length P
        have hpm := putM_mod P
        obtain ⟨g0, gE⟩ := get_put P hi hc0 l1
        obtain ⟨hs, -⟩ := hdM_put P hi hc0 l1
        have hct := get_cut P hi hc0 ((putM P).length - 1) (by omega)
        have hBl : (putM P).length ≤ cB := Rd.le (M.rdB (by first | ((repeat (first | with_reducible exact Has.here | with_reducible refine Has.there ?_)); done) | (repeat (first | exact Has.here | refine Has.there ?_))) : RdB w B cB (putM P))
        have hpd : padN P.l.length ≤ 3 := by unfold padN; omega
        refine W.seq ?_
        refine W.region ?_
        refine WL.move rfl rfl ?_
        refine WL.call Try.call20 rfl (Copy_ok (by first | first | with_reducible assumption | with_reducible exact RdB.mem (by with_reducible assumption) M | exact M.rdB (by first | ((repeat (first | with_reducible exact Has.here | with_reducible refine Has.there ?_)); done) | (repeat (first | exact Has.here | refine Has.there ?_))) | exact RdH.at (by assumption) (M.sel (by first | ((repeat (first | with_reducible exact Sel.refl | with_reducible exact Sel.nil | with_reducible exact Del.here | with_reducible apply Del.there | with_reducible apply Sel.cons | with_reducible apply Sel.drop)); done) | (repeat (first | exact Sel.refl | exact Sel.nil | exact Del.here | apply Del.there | apply Sel.cons | apply Sel.drop)))) | exact M.rdLit' (by first | ((repeat (first | with_reducible exact Has.here | with_reducible refine Has.there ?_)); done) | (repeat (first | exact Has.here | refine Has.there ?_))) | exact M.rdLent (by first | ((repeat (first | with_reducible exact Has.here | with_reducible refine Has.there ?_)); done) | (repeat (first | exact Has.here | refine Has.there ?_))) | exact RdB.nil _ _ | exact RdB.sub (by first | with_reducible assumption | with_reducible exact RdB.mem (by with_reducible assumption) M | exact M.rdB (by first | ((repeat (first | with_reducible exact Has.here | with_reducible refine Has.there ?_)); done) | (repeat (first | exact Has.here | refine Has.there ?_))) | exact RdH.at (by assumption) (M.sel (by first | ((repeat (first | with_reducible exact Sel.refl | with_reducible exact Sel.nil | with_reducible exact Del.here | with_reducible apply Del.there | with_reducible apply Sel.cons | with_reducible apply Sel.drop)); done) | (repeat (first | exact Sel.refl | exact Sel.nil | exact Del.here | apply Del.there | apply Sel.cons | apply Sel.drop)))) | exact M.rdLit' (by first | ((repeat (first | with_reducible exact Has.here | with_reducible refine Has.there ?_)); done) | (repeat (first | exact Has.here | refine Has.there ?_))) | exact M.rdLent (by first | ((repeat (first | with_reducible exact Has.here | with_reducible refine Has.there ?_)); done) | (repeat (first | exact Has.here | refine Has.there ?_))) | exact RdB.nil _ _) (by omega) (by omega) | exact RdB.pre' (by first | with_reducible assumption | with_reducible exact RdB.mem (by with_reducible assumption) M | exact M.rdB (by first | ((repeat (first | with_reducible exact Has.here | with_reducible refine Has.there ?_)); done) | (repeat (first | exact Has.here | refine Has.there ?_))) | exact RdH.at (by assumption) (M.sel (by first | ((repeat (first | with_reducible exact Sel.refl | with_reducible exact Sel.nil | with_reducible exact Del.here | with_reducible apply Del.there | with_reducible apply Sel.cons | with_reducible apply Sel.drop)); done) | (repeat (first | exact Sel.refl | exact Sel.nil | exact Del.here | apply Del.there | apply Sel.cons | apply Sel.drop)))) | exact M.rdLit' (by first | ((repeat (first | with_reducible exact Has.here | with_reducible refine Has.there ?_)); done) | (repeat (first | exact Has.here | refine Has.there ?_))) | exact M.rdLent (by first | ((repeat (first | with_reducible exact Has.here | with_reducible refine Has.there ?_)); done) | (repeat (first | exact Has.here | refine Has.there ?_))) | exact RdB.nil _ _) (by omega) | exact RdB.suf (by first | with_reducible assumption | with_reducible exact RdB.mem (by with_reducible assumption) M | exact M.rdB (by first | ((repeat (first | with_reducible exact Has.here | with_reducible refine Has.there ?_)); done) | (repeat (first | exact Has.here | refine Has.there ?_))) | exact RdH.at (by assumption) (M.sel (by first | ((repeat (first | with_reducible exact Sel.refl | with_reducible exact Sel.nil | with_reducible exact Del.here | with_reducible apply Del.there | with_reducible apply Sel.cons | with_reducible apply Sel.drop)); done) | (repeat (first | exact Sel.refl | exact Sel.nil | exact Del.here | apply Del.there | apply Sel.cons | apply Sel.drop)))) | exact M.rdLit' (by first | ((repeat (first | with_reducible exact Has.here | with_reducible refine Has.there ?_)); done) | (repeat (first | exact Has.here | refine Has.there ?_))) | exact M.rdLent (by first | ((repeat (first | with_reducible exact Has.here | with_reducible refine Has.there ?_)); done) | (repeat (first | exact Has.here | refine Has.there ?_))) | exact RdB.nil _ _) (by omega)) (by omega)) rfl ?_
        rintro _ w ⟨A7_1, cap7_1, rfl, m⟩
        replace M := M.call1 m; clear m
        refine WL.assign rfl rfl ?_
        refine WL.nil ?_
        refine WX.next ?_
        refine W.sub [(1, _), (2, _), (3, _), (7, _), (9, _)] (.cons rfl (.cons rfl (.cons rfl (.cons rfl (.cons rfl .nil))))) ?_
        refine W.seq ?_
        refine W.region ?_
        refine WL.move rfl rfl ?_
        refine WL.move rfl rfl ?_
        refine WL.appendBH Try.elem5 rfl rfl M (by first | ((repeat (first | with_reducible exact Del.here | with_reducible apply Del.there)); done) | (repeat (first | exact Del.here | apply Del.there))) (by first | first | with_reducible assumption | with_reducible exact RdB.mem (by with_reducible assumption) M | exact M.rdB (by first | ((repeat (first | with_reducible exact Has.here | with_reducible refine Has.there ?_)); done) | (repeat (first | exact Has.here | refine Has.there ?_))) | exact RdH.at (by assumption) (M.sel (by first | ((repeat (first | with_reducible exact Sel.refl | with_reducible exact Sel.nil | with_reducible exact Del.here | with_reducible apply Del.there | with_reducible apply Sel.cons | with_reducible apply Sel.drop)); done) | (repeat (first | exact Sel.refl | exact Sel.nil | exact Del.here | apply Del.there | apply Sel.cons | apply Sel.drop)))) | exact M.rdLit' (by first | ((repeat (first | with_reducible exact Has.here | with_reducible refine Has.there ?_)); done) | (repeat (first | exact Has.here | refine Has.there ?_))) | exact M.rdLent (by first | ((repeat (first | with_reducible exact Has.here | with_reducible refine Has.there ?_)); done) | (repeat (first | exact Has.here | refine Has.there ?_))) | exact RdB.nil _ _ | exact RdB.sub (by first | with_reducible assumption | with_reducible exact RdB.mem (by with_reducible assumption) M | exact M.rdB (by first | ((repeat (first | with_reducible exact Has.here | with_reducible refine Has.there ?_)); done) | (repeat (first | exact Has.here | refine Has.there ?_))) | exact RdH.at (by assumption) (M.sel (by first | ((repeat (first | with_reducible exact Sel.refl | with_reducible exact Sel.nil | with_reducible exact Del.here | with_reducible apply Del.there | with_reducible apply Sel.cons | with_reducible apply Sel.drop)); done) | (repeat (first | exact Sel.refl | exact Sel.nil | exact Del.here | apply Del.there | apply Sel.cons | apply Sel.drop)))) | exact M.rdLit' (by first | ((repeat (first | with_reducible exact Has.here | with_reducible refine Has.there ?_)); done) | (repeat (first | exact Has.here | refine Has.there ?_))) | exact M.rdLent (by first | ((repeat (first | with_reducible exact Has.here | with_reducible refine Has.there ?_)); done) | (repeat (first | exact Has.here | refine Has.there ?_))) | exact RdB.nil _ _) (by omega) (by omega) | exact RdB.pre' (by first | with_reducible assumption | with_reducible exact RdB.mem (by with_reducible assumption) M | exact M.rdB (by first | ((repeat (first | with_reducible exact Has.here | with_reducible refine Has.there ?_)); done) | (repeat (first | exact Has.here | refine Has.there ?_))) | exact RdH.at (by assumption) (M.sel (by first | ((repeat (first | with_reducible exact Sel.refl | with_reducible exact Sel.nil | with_reducible exact Del.here | with_reducible apply Del.there | with_reducible apply Sel.cons | with_reducible apply Sel.drop)); done) | (repeat (first | exact Sel.refl | exact Sel.nil | exact Del.here | apply Del.there | apply Sel.cons | apply Sel.drop)))) | exact M.rdLit' (by first | ((repeat (first | with_reducible exact Has.here | with_reducible refine Has.there ?_)); done) | (repeat (first | exact Has.here | refine Has.there ?_))) | exact M.rdLent (by first | ((repeat (first | with_reducible exact Has.here | with_reducible refine Has.there ?_)); done) | (repeat (first | exact Has.here | refine Has.there ?_))) | exact RdB.nil _ _) (by omega) | exact RdB.suf (by first | with_reducible assumption | with_reducible exact RdB.mem (by with_reducible assumption) M | exact M.rdB (by first | ((repeat (first | with_reducible exact Has.here | with_reducible refine Has.there ?_)); done) | (repeat (first | exact Has.here | refine Has.there ?_))) | exact RdH.at (by assumption) (M.sel (by first | ((repeat (first | with_reducible exact Sel.refl | with_reducible exact Sel.nil | with_reducible exact Del.here | with_reducible apply Del.there | with_reducible apply Sel.cons | with_reducible apply Sel.drop)); done) | (repeat (first | exact Sel.refl | exact Sel.nil | exact Del.here | apply Del.there | apply Sel.cons | apply Sel.drop)))) | exact M.rdLit' (by first | ((repeat (first | with_reducible exact Has.here | with_reducible refine Has.there ?_)); done) | (repeat (first | exact Has.here | refine Has.there ?_))) | exact M.rdLent (by first | ((repeat (first | with_reducible exact Has.here | with_reducible refine Has.there ?_)); done) | (repeat (first | exact Has.here | refine Has.there ?_))) | exact RdB.nil _ _) (by omega)) rfl rfl (by first | omega | (simp; done) | (simp; omega)) rfl ?_
        intro A8_2 cap8_2 w M
        refine WL.assign rfl rfl ?_
        refine WL.nil ?_
        refine WX.next ?_
        refine W.sub [(2, _), (3, _), (7, _), (9, _)] (.cons rfl (.cons rfl (.cons rfl (.cons rfl .nil)))) ?_
        refine W.seq ?_
        refine W.region ?_
        refine WL.move rfl rfl ?_
        refine WL.call Try.call21 rfl (Get_ok (b := putM P ++ l1) (by rw [List.length_append]; omega) (M.rdB (by first | ((repeat (first | with_reducible exact Has.here | with_reducible refine Has.there ?_)); done) | (repeat (first | exact Has.here | refine Has.there ?_))))) rfl ?_
        rintro _ w ⟨⟨op', now', flags', lun', tag', ws', ⟨C, cC, c⟩⟩, rfl, m, hg, -⟩
        replace M := M.call1 m; clear m
        have hg2 := hg g0
        rw [g0, gE, if_pos rfl]
        unfold PdX.v
        unfold PdX.O OX.O at M
        dsimp only at M ⊢
        refine WL.move rfl rfl ?_
        refine WL.extractL rfl rfl rfl ?_
        refine WL.extractL rfl rfl rfl ?_
        refine WL.extractL rfl rfl rfl ?_
        refine WL.alloc Try.zeroValue27 M rfl ?_
        intro g9_6 w M
        try simp only [Value.cells] at M
        try simp only [List.toList_toArray] at M
        refine WL.storeWA Try.sizeOf27 rfl rfl (by repeat (first | exact oneNil | refine oneCons rfl ?_)) rfl rfl M (by first | ((repeat (first | with_reducible exact Upd.here | with_reducible apply Upd.there)); done) | (repeat (first | exact Upd.here | apply Upd.there))) ?_
        intro w M
        refine WL.assign rfl rfl ?_
        refine WL.assign rfl rfl ?_
        refine WL.nil ?_
        refine WX.next ?_
        refine W.sub [(2, _), (3, _), (7, _), (10, _), (11, _), (12, _)] (.cons rfl (.cons rfl (.cons rfl (.cons rfl (.cons rfl (.cons rfl .nil)))))) ?_
        refine W.seq ?_
        refine W.region ?_
        refine WL.move rfl rfl ?_
        refine WL.move rfl rfl ?_
        refine WL.len Try.underlying25 rfl rfl ?_
        refine WL.sub' rfl rfl (by first | exact wI64 (by omega) | rfl) rfl ?_
        refine WL.cutH (m' := ((putM P).take ((putM P).length - 1)).length) Try.underlying25 Try.sizeOf5 rfl rfl (by omega) (by omega) (by first | (rw [sub_length (by omega) (by omega)]) | (simp only [List.length_drop] <;> omega) | (simp only [List.length_take] <;> omega) | (simp only [List.length_take, List.length_drop] <;> omega) | (simp; done) | (simp; omega)) rfl ?_
        refine WL.call Try.call21 rfl (Get_ok (b := (putM P).take ((putM P).length - 1)) (by rw [List.length_take]; omega) (by first | first | with_reducible assumption | with_reducible exact RdB.mem (by with_reducible assumption) M | exact M.rdB (by first | ((repeat (first | with_reducible exact Has.here | with_reducible refine Has.there ?_)); done) | (repeat (first | exact Has.here | refine Has.there ?_))) | exact RdH.at (by assumption) (M.sel (by first | ((repeat (first | with_reducible exact Sel.refl | with_reducible exact Sel.nil | with_reducible exact Del.here | with_reducible apply Del.there | with_reducible apply Sel.cons | with_reducible apply Sel.drop)); done) | (repeat (first | exact Sel.refl | exact Sel.nil | exact Del.here | apply Del.there | apply Sel.cons | apply Sel.drop)))) | exact M.rdLit' (by first | ((repeat (first | with_reducible exact Has.here | with_reducible refine Has.there ?_)); done) | (repeat (first | exact Has.here | refine Has.there ?_))) | exact M.rdLent (by first | ((repeat (first | with_reducible exact Has.here | with_reducible refine Has.there ?_)); done) | (repeat (first | exact Has.here | refine Has.there ?_))) | exact RdB.nil _ _ | exact RdB.sub (by first | with_reducible assumption | with_reducible exact RdB.mem (by with_reducible assumption) M | exact M.rdB (by first | ((repeat (first | with_reducible exact Has.here | with_reducible refine Has.there ?_)); done) | (repeat (first | exact Has.here | refine Has.there ?_))) | exact RdH.at (by assumption) (M.sel (by first | ((repeat (first | with_reducible exact Sel.refl | with_reducible exact Sel.nil | with_reducible exact Del.here | with_reducible apply Del.there | with_reducible apply Sel.cons | with_reducible apply Sel.drop)); done) | (repeat (first | exact Sel.refl | exact Sel.nil | exact Del.here | apply Del.there | apply Sel.cons | apply Sel.drop)))) | exact M.rdLit' (by first | ((repeat (first | with_reducible exact Has.here | with_reducible refine Has.there ?_)); done) | (repeat (first | exact Has.here | refine Has.there ?_))) | exact M.rdLent (by first | ((repeat (first | with_reducible exact Has.here | with_reducible refine Has.there ?_)); done) | (repeat (first | exact Has.here | refine Has.there ?_))) | exact RdB.nil _ _) (by omega) (by omega) | exact RdB.pre' (by first | with_reducible assumption | with_reducible exact RdB.mem (by with_reducible assumption) M | exact M.rdB (by first | ((repeat (first | with_reducible exact Has.here | with_reducible refine Has.there ?_)); done) | (repeat (first | exact Has.here | refine Has.there ?_))) | exact RdH.at (by assumption) (M.sel (by first | ((repeat (first | with_reducible exact Sel.refl | with_reducible exact Sel.nil | with_reducible exact Del.here | with_reducible apply Del.there | with_reducible apply Sel.cons | with_reducible apply Sel.drop)); done) | (repeat (first | exact Sel.refl | exact Sel.nil | exact Del.here | apply Del.there | apply Sel.cons | apply Sel.drop)))) | exact M.rdLit' (by first | ((repeat (first | with_reducible exact Has.here | with_reducible refine Has.there ?_)); done) | (repeat (first | exact Has.here | refine Has.there ?_))) | exact M.rdLent (by first | ((repeat (first | with_reducible exact Has.here | with_reducible refine Has.there ?_)); done) | (repeat (first | exact Has.here | refine Has.there ?_))) | exact RdB.nil _ _) (by omega) | exact RdB.suf (by first | with_reducible assumption | with_reducible exact RdB.mem (by with_reducible assumption) M | exact M.rdB (by first | ((repeat (first | with_reducible exact Has.here | with_reducible refine Has.there ?_)); done) | (repeat (first | exact Has.here | refine Has.there ?_))) | exact RdH.at (by assumption) (M.sel (by first | ((repeat (first | with_reducible exact Sel.refl | with_reducible exact Sel.nil | with_reducible exact Del.here | with_reducible apply Del.there | with_reducible apply Sel.cons | with_reducible apply Sel.drop)); done) | (repeat (first | exact Sel.refl | exact Sel.nil | exact Del.here | apply Del.there | apply Sel.cons | apply Sel.drop)))) | exact M.rdLit' (by first | ((repeat (first | with_reducible exact Has.here | with_reducible refine Has.there ?_)); done) | (repeat (first | exact Has.here | refine Has.there ?_))) | exact M.rdLent (by first | ((repeat (first | with_reducible exact Has.here | with_reducible refine Has.there ?_)); done) | (repeat (first | exact Has.here | refine Has.there ?_))) | exact RdB.nil _ _) (by omega))) rfl ?_
        rintro _ w ⟨⟨op'', now'', flags'', lun'', tag'', ws'', ⟨D, cD, d⟩⟩, rfl, m, -, -⟩
        replace M := M.call1 m; clear m
        rw [hct]
        unfold PdX.v
        unfold PdX.O OX.O at M
        dsimp only at M ⊢
        refine WL.move rfl rfl ?_
        refine WL.extractL rfl rfl rfl ?_
        refine WL.extractL rfl rfl rfl ?_
        refine WL.extractL rfl rfl rfl ?_
        refine WL.alloc Try.zeroValue27 M rfl ?_
        intro g10_10 w M
        try simp only [Value.cells] at M
        try simp only [List.toList_toArray] at M
        refine WL.storeWA Try.sizeOf27 rfl rfl (by repeat (first | exact oneNil | refine oneCons rfl ?_)) rfl rfl M (by first | ((repeat (first | with_reducible exact Upd.here | with_reducible apply Upd.there)); done) | (repeat (first | exact Upd.here | apply Upd.there))) ?_
        intro w M
        refine WL.assign rfl rfl ?_
        refine WL.assign rfl rfl ?_
        refine WL.nil ?_
        refine WX.next ?_
        refine W.sub [(2, _), (3, _), (7, _), (10, _), (11, _), (12, _), (15, _)] (.cons rfl (.cons rfl (.cons rfl (.cons rfl (.cons rfl (.cons rfl (.cons rfl .nil))))))) ?_
        refine W.seq ?_
        refine W.region ?_
        refine WL.move rfl rfl ?_
        refine WL.neI rfl rfl rfl ?_
        refine WL.moveIf rfl rfl (fun c6 => ?_) (fun c6 => ?_)
        · exact absurd rfl c6
        · refine WL.on rfl rfl ?_
          refine WL.move rfl rfl ?_
          refine WL.on rfl rfl ?_
          refine WL.move rfl rfl ?_
          refine WL.on rfl rfl ?_
          refine WL.len Try.underlying25 rfl rfl ?_
          refine WL.on rfl rfl ?_
          refine WL.neI rfl rfl rfl ?_
          refine WL.pickF rfl rfl rfl ?_
          refine WL.moveIf rfl rfl (fun c7 => ?_) (fun c7 => ?_)
          · exact absurd rfl c7
          · refine WL.on rfl rfl ?_
            refine WL.loadW Try.isAgg27 Try.sizeOf27 rfl M (by first | ((repeat (first | with_reducible exact Has.here | with_reducible refine Has.there ?_)); done) | (repeat (first | exact Has.here | refine Has.there ?_))) rfl rfl ?_
            refine WL.on rfl rfl ?_
            refine WL.loadW Try.isAgg27 Try.sizeOf27 rfl M (by first | ((repeat (first | with_reducible exact Has.here | with_reducible refine Has.there ?_)); done) | (repeat (first | exact Has.here | refine Has.there ?_))) rfl rfl ?_
            refine WL.on rfl rfl ?_
            refine WL.call Try.call22 rfl (SameR_ok ⟨op, now, flags, lun, tag, ws, ⟨A, cap, l⟩⟩ ⟨op', now', flags', lun', tag', ws', ⟨C, cC, c⟩⟩ (hb.mem M) (M.rdB (by first | ((repeat (first | with_reducible exact Has.here | with_reducible refine Has.there ?_)); done) | (repeat (first | exact Has.here | refine Has.there ?_))))) rfl ?_
            rintro _ w ⟨rfl, m⟩
            replace M := M.call0 m; clear m
            refine WL.on rfl rfl ?_
            refine WL.notP rfl rfl ?_
            refine WL.pickF rfl rfl rfl ?_
            refine WL.moveIf rfl rfl (fun c8 => ?_) (fun c8 => ?_)
            · exact absurd (by rw [← hP, hg2]; exact hs) c8
            · refine WL.on rfl rfl ?_
              refine WL.move rfl rfl ?_
              refine WL.on rfl rfl ?_
              refine WL.len Try.underlying25 rfl rfl ?_
              refine WL.on rfl rfl ?_
              refine WL.rem rfl rfl (by omega) (remN (by omega)) rfl ?_
              refine WL.on rfl rfl ?_
              refine WL.neI rfl rfl rfl ?_
              refine WL.pickF rfl rfl rfl ?_
              refine WL.moveIf rfl rfl (fun c9 => ?_) (fun c9 => ?_)
              · exact absurd (by omega) c9
              · refine WL.on rfl rfl ?_
                refine WL.move rfl rfl ?_
                refine WL.on rfl rfl ?_
                refine WL.neI rfl rfl rfl ?_
                refine WL.pickF rfl rfl rfl ?_
                refine WL.nil ?_
                refine WX.next ?_
                refine W.sub [(2, _), (94, _)] (.cons rfl (.cons rfl .nil)) ?_
                refine W.ite rfl (fun c10 => ?_) (fun c10 => ?_)
                · exact absurd rfl c10
                · refine W.skip ?_
                  refine WX.join (()) (by (repeat' (first | exact envSub.nil | refine envSub.cons ?_ ?_)) <;> first | rfl | (refine congrArg some ?_; refine congrArg (Value.int _) ?_; first | omega | (dsimp only; omega)) | (simp; done) | (refine congrArg some ?_; dsimp only; congr 1; omega) | (simp; omega)) ⟨M.sel (by first | ((repeat (first | with_reducible exact Sel.refl | with_reducible exact Sel.nil | with_reducible exact Del.here | with_reducible apply Del.there | with_reducible apply Sel.cons | with_reducible apply Sel.drop)); done) | (repeat (first | exact Sel.refl | exact Sel.nil | exact Del.here | apply Del.there | apply Sel.cons | apply Sel.drop))), (by first | trivial | omega | (dsimp only; omega) | (simp; done))⟩
      · refine W.skip ?_
        refine WX.join (()) (by (repeat' (first | exact envSub.nil | refine envSub.cons ?_ ?_)) <;> first | rfl | (refine congrArg some ?_; refine congrArg (Value.int _) ?_; first | omega | (dsimp only; omega)) | (simp; done) | (refine congrArg some ?_; dsimp only; congr 1; omega) | (simp; omega)) ⟨M.sel (by first | ((repeat (first | with_reducible exact Sel.refl | with_reducible exact Sel.nil | with_reducible exact Del.here | with_reducible apply Del.there | with_reducible apply Sel.cons | with_reducible apply Sel.drop)); done) | (repeat (first | exact Sel.refl | exact Sel.nil | exact Del.here | apply Del.there | apply Sel.cons | apply Sel.drop))), (by first | trivial | omega | (dsimp only; omega) | (simp; done))⟩
    clear M; rintro (_) w ⟨M, -⟩; dsimp only at M ⊢
    refine W.sub [(2, _)] (.cons rfl .nil) ?_
    refine W.seq ?_
    refine W.region ?_
    refine WL.move rfl rfl ?_
    refine WL.call Try.call21 rfl (Get_ok (b := l2) (by omega) (h2.mem M)) rfl ?_
    rintro _ w ⟨⟨op', now', flags', lun', tag', ws', ⟨C, cC, c⟩⟩, rfl, m, hg, hg2⟩
    replace M := M.call1 m; clear m
    unfold PdX.v
    unfold PdX.O OX.O at M
    dsimp only at M ⊢
    refine WL.move rfl rfl ?_
    refine WL.extractL rfl rfl rfl ?_
    refine WL.extractL rfl rfl rfl ?_
    refine WL.extractL rfl rfl rfl ?_
    refine WL.alloc Try.zeroValue27 M rfl ?_
    intro g13_6 w M
    try simp only [Value.cells] at M
    try simp only [List.toList_toArray] at M
    refine WL.storeWA Try.sizeOf27 rfl rfl (by repeat (first | exact oneNil | refine oneCons rfl ?_)) rfl rfl M (by first | ((repeat (first | with_reducible exact Upd.here | with_reducible apply Upd.there)); done) | (repeat (first | exact Upd.here | apply Upd.there))) ?_
    intro w M
    refine WL.assign rfl rfl ?_
    refine WL.assign rfl rfl ?_
    refine WL.nil ?_
    refine WX.next ?_
    refine W.sub [(2, _), (16, _), (17, _), (18, _)] (.cons rfl (.cons rfl (.cons rfl (.cons rfl .nil)))) ?_
    refine W.seq ?_
    refine W.seq ?_
    refine W.region ?_
    refine WL.move rfl rfl ?_
    refine WL.neI rfl rfl rfl ?_
    refine WL.nil ?_
    refine WX.next ?_
    refine W.sub [(2, _), (16, _), (17, _), (102, _)] (.cons rfl (.cons rfl (.cons rfl (.cons rfl .nil)))) ?_
    refine W.ite rfl (fun c11 => ?_) (fun c11 => ?_)
    · have hgz := hg2 c11
      rw [if_neg c11]
      have hcl : c = [] := congrArg MX.l hgz
      subst hcl
      refine W.seq ?_
      refine W.region ?_
      refine WL.move rfl rfl ?_
      refine WL.eqI rfl rfl rfl ?_
      refine WL.moveIf rfl rfl (fun c12 => ?_) (fun c12 => ?_)
      · refine WL.on rfl rfl ?_
        refine WL.fieldR (off := 12) Try.underlying27 rfl rfl Try.sizeOf25 rfl rfl rfl ?_
        refine WL.on rfl rfl ?_
        refine WL.loadR Try.isAgg25 rfl M (by first | ((repeat (first | with_reducible exact Has.here | with_reducible refine Has.there ?_)); done) | (repeat (first | exact Has.here | refine Has.there ?_))) rfl rfl ?_
        refine WL.on rfl rfl ?_
        refine WL.len Try.underlying25 rfl rfl ?_
        refine WL.on rfl rfl ?_
        refine WL.eqI rfl rfl rfl ?_
        refine WL.pickT rfl rfl rfl ?_
        refine WL.moveIf rfl rfl (fun c13 => ?_) (fun c13 => ?_)
        · refine WL.on rfl rfl ?_
          refine WL.call Try.call9 rfl (known20_ok _) rfl ?_
          rintro _ w ⟨rfl, m⟩
          replace M := M.call0 m; clear m
          refine WL.pickT rfl rfl rfl ?_
          refine WL.assign rfl rfl ?_
          refine WL.nil ?_
          refine WX.next ?_
          refine W.sub [(6, _)] (.cons rfl .nil) ?_
          refine W.ret ?_
          refine WX.thenRet ?_
          refine WX.ret1 rfl rfl ?_
          exact ⟨by simp, M.sel (by first | ((repeat (first | with_reducible exact Sel.refl | with_reducible exact Sel.nil | with_reducible exact Del.here | with_reducible apply Del.there | with_reducible apply Sel.cons | with_reducible apply Sel.drop)); done) | (repeat (first | exact Sel.refl | exact Sel.nil | exact Del.here | apply Del.there | apply Sel.cons | apply Sel.drop)))⟩
        · exact absurd rfl c13
      · exact absurd rfl c12
    · have hg0 : getE l2 = 0 := Classical.not_not.1 c11
      have hgm := hg hg0
      obtain ⟨e1, e2, e3, e4⟩ := put_get hg0
      rw [← hgm] at e1 e2 e3
      have e5 := hdM_inn l2
      rw [← hgm] at e5
      have e6 := chkM_zero e2
      rw [hg0, if_pos rfl]
      clear hg hg2 hgm
      obtain ⟨E, hE⟩ : ∃ E, endM l2 = E := ⟨_, rfl⟩
      rw [hE] at e1 e4 ⊢
      clear e3 hE
      refine W.skip ?_
      refine WX.next ?_
      refine W.seq ?_
      refine W.region ?_
      refine WL.loadW Try.isAgg27 Try.sizeOf27 rfl M (by first | ((repeat (first | with_reducible exact Has.here | with_reducible refine Has.there ?_)); done) | (repeat (first | exact Has.here | refine Has.there ?_))) rfl rfl ?_
      refine WL.call Try.call11 rfl (Put_ok ⟨op', now', flags', lun', tag', ws', ⟨C, cC, c⟩⟩ _ (M.rdB (by first | ((repeat (first | with_reducible exact Has.here | with_reducible refine Has.there ?_)); done) | (repeat (first | exact Has.here | refine Has.there ?_)))) e5 (by have := e6.2.2; show c.length ≤ 1000000; exact Nat.le_trans this (by decide))) rfl ?_
      rintro _ w ⟨⟨D, cD, z⟩, rfl, m, hz1, -⟩
      replace M := M.call1 m; clear m
      have hz2 := hz1 e2
      dsimp only at hz2
      rw [show chkM (PdX.op ⟨op', now', flags', lun', tag', ws', ⟨C, cC, c⟩⟩) (PdX.now ⟨op', now', flags', lun', tag', ws', ⟨C, cC, c⟩⟩) (OX.l (PdX.x ⟨op', now', flags', lun', tag', ws', ⟨C, cC, c⟩⟩)).length = 0 from e2]
      unfold OX.v
      unfold OX.O at M
      dsimp only at M ⊢
      subst hz2
      refine WL.move rfl rfl ?_
      refine WL.extractL rfl rfl rfl ?_
      refine WL.extractL rfl rfl rfl ?_
      refine WL.assign rfl rfl ?_
      refine WL.assign rfl rfl ?_
      refine WL.nil ?_
      refine WX.next ?_
      refine W.sub [(2, _), (17, _), (19, _), (20, _)] (.cons rfl (.cons rfl (.cons rfl (.cons rfl .nil)))) ?_
      refine W.seq ?_
      refine W.region ?_
      refine WL.move rfl rfl ?_
      refine WL.eqI rfl rfl rfl ?_
      refine WL.moveIf rfl rfl (fun c14 => ?_) (fun c14 => ?_)
      · refine WL.on rfl rfl ?_
        refine WL.move rfl rfl ?_
        refine WL.on rfl rfl ?_
        refine WL.move rfl rfl ?_
        refine WL.on rfl rfl ?_
        refine WL.len Try.underlying25 rfl rfl ?_
        refine WL.on rfl rfl ?_
        refine WL.leq rfl rfl rfl ?_
        refine WL.pickT rfl rfl rfl ?_
        refine WL.moveIf rfl rfl (fun c15 => ?_) (fun c15 => ?_)
        · refine WL.on rfl rfl ?_
          refine WL.move rfl rfl ?_
          refine WL.on rfl rfl ?_
          refine WL.move rfl rfl ?_
          refine WL.on rfl rfl ?_
          refine WL.move rfl rfl ?_
          refine WL.on rfl rfl ?_
          refine WL.cutH (m' := (l2.take E).length) Try.underlying25 Try.sizeOf5 rfl rfl (by omega) (by omega) (by rw [List.length_take, Int.toNat_natCast]; exact (Nat.min_eq_left e4).symm) rfl ?_
          refine WL.on rfl rfl ?_
          refine WL.call Try.call17 rfl (Same_ok (by first | first | with_reducible assumption | with_reducible exact RdB.mem (by with_reducible assumption) M | exact M.rdB (by first | ((repeat (first | with_reducible exact Has.here | with_reducible refine Has.there ?_)); done) | (repeat (first | exact Has.here | refine Has.there ?_))) | exact RdH.at (by assumption) (M.sel (by first | ((repeat (first | with_reducible exact Sel.refl | with_reducible exact Sel.nil | with_reducible exact Del.here | with_reducible apply Del.there | with_reducible apply Sel.cons | with_reducible apply Sel.drop)); done) | (repeat (first | exact Sel.refl | exact Sel.nil | exact Del.here | apply Del.there | apply Sel.cons | apply Sel.drop)))) | exact M.rdLit' (by first | ((repeat (first | with_reducible exact Has.here | with_reducible refine Has.there ?_)); done) | (repeat (first | exact Has.here | refine Has.there ?_))) | exact M.rdLent (by first | ((repeat (first | with_reducible exact Has.here | with_reducible refine Has.there ?_)); done) | (repeat (first | exact Has.here | refine Has.there ?_))) | exact RdB.nil _ _ | exact RdB.sub (by first | with_reducible assumption | with_reducible exact RdB.mem (by with_reducible assumption) M | exact M.rdB (by first | ((repeat (first | with_reducible exact Has.here | with_reducible refine Has.there ?_)); done) | (repeat (first | exact Has.here | refine Has.there ?_))) | exact RdH.at (by assumption) (M.sel (by first | ((repeat (first | with_reducible exact Sel.refl | with_reducible exact Sel.nil | with_reducible exact Del.here | with_reducible apply Del.there | with_reducible apply Sel.cons | with_reducible apply Sel.drop)); done) | (repeat (first | exact Sel.refl | exact Sel.nil | exact Del.here | apply Del.there | apply Sel.cons | apply Sel.drop)))) | exact M.rdLit' (by first | ((repeat (first | with_reducible exact Has.here | with_reducible refine Has.there ?_)); done) | (repeat (first | exact Has.here | refine Has.there ?_))) | exact M.rdLent (by first | ((repeat (first | with_reducible exact Has.here | with_reducible refine Has.there ?_)); done) | (repeat (first | exact Has.here | refine Has.there ?_))) | exact RdB.nil _ _) (by omega) (by omega) | exact RdB.pre' (by first | with_reducible assumption | with_reducible exact RdB.mem (by with_reducible assumption) M | exact M.rdB (by first | ((repeat (first | with_reducible exact Has.here | with_reducible refine Has.there ?_)); done) | (repeat (first | exact Has.here | refine Has.there ?_))) | exact RdH.at (by assumption) (M.sel (by first | ((repeat (first | with_reducible exact Sel.refl | with_reducible exact Sel.nil | with_reducible exact Del.here | with_reducible apply Del.there | with_reducible apply Sel.cons | with_reducible apply Sel.drop)); done) | (repeat (first | exact Sel.refl | exact Sel.nil | exact Del.here | apply Del.there | apply Sel.cons | apply Sel.drop)))) | exact M.rdLit' (by first | ((repeat (first | with_reducible exact Has.here | with_reducible refine Has.there ?_)); done) | (repeat (first | exact Has.here | refine Has.there ?_))) | exact M.rdLent (by first | ((repeat (first | with_reducible exact Has.here | with_reducible refine Has.there ?_)); done) | (repeat (first | exact Has.here | refine Has.there ?_))) | exact RdB.nil _ _) (by omega) | exact RdB.suf (by first | with_reducible assumption | with_reducible exact RdB.mem (by with_reducible assumption) M | exact M.rdB (by first | ((repeat (first | with_reducible exact Has.here | with_reducible refine Has.there ?_)); done) | (repeat (first | exact Has.here | refine Has.there ?_))) | exact RdH.at (by assumption) (M.sel (by first | ((repeat (first | with_reducible exact Sel.refl | with_reducible exact Sel.nil | with_reducible exact Del.here | with_reducible apply Del.there | with_reducible apply Sel.cons | with_reducible apply Sel.drop)); done) | (repeat (first | exact Sel.refl | exact Sel.nil | exact Del.here | apply Del.there | apply Sel.cons | apply Sel.drop)))) | exact M.rdLit' (by first | ((repeat (first | with_reducible exact Has.here | with_reducible refine Has.there ?_)); done) | (repeat (first | exact Has.here | refine Has.there ?_))) | exact M.rdLent (by first | ((repeat (first | with_reducible exact Has.here | with_reducible refine Has.there ?_)); done) | (repeat (first | exact Has.here | refine Has.there ?_))) | exact RdB.nil _ _) (by omega)) (by first | first | with_reducible assumption | with_reducible exact RdB.mem (by with_reducible assumption) M | exact M.rdB (by first | ((repeat (first | with_reducible exact Has.here | with_reducible refine Has.there ?_)); done) | (repeat (first | exact Has.here | refine Has.there ?_))) | exact RdH.at (by assumption) (M.sel (by first | ((repeat (first | with_reducible exact Sel.refl | with_reducible exact Sel.nil | with_reducible exact Del.here | with_reducible apply Del.there | with_reducible apply Sel.cons | with_reducible apply Sel.drop)); done) | (repeat (first | exact Sel.refl | exact Sel.nil | exact Del.here | apply Del.there | apply Sel.cons | apply Sel.drop)))) | exact M.rdLit' (by first | ((repeat (first | with_reducible exact Has.here | with_reducible refine Has.there ?_)); done) | (repeat (first | exact Has.here | refine Has.there ?_))) | exact M.rdLent (by first | ((repeat (first | with_reducible exact Has.here | with_reducible refine Has.there ?_)); done) | (repeat (first | exact Has.here | refine Has.there ?_))) | exact RdB.nil _ _ | exact RdB.sub (by first | with_reducible assumption | with_reducible exact RdB.mem (by with_reducible assumption) M | exact M.rdB (by first | ((repeat (first | with_reducible exact Has.here | with_reducible refine Has.there ?_)); done) | (repeat (first | exact Has.here | refine Has.there ?_))) | exact RdH.at (by assumption) (M.sel (by first | ((repeat (first | with_reducible exact Sel.refl | with_reducible exact Sel.nil | with_reducible exact Del.here | with_reducible apply Del.there | with_reducible apply Sel.cons | with_reducible apply Sel.drop)); done) | (repeat (first | exact Sel.refl | exact Sel.nil | exact Del.here | apply Del.there | apply Sel.cons | apply Sel.drop)))) | exact M.rdLit' (by first | ((repeat (first | with_reducible exact Has.here | with_reducible refine Has.there ?_)); done) | (repeat (first | exact Has.here | refine Has.there ?_))) | exact M.rdLent (by first | ((repeat (first | with_reducible exact Has.here | with_reducible refine Has.there ?_)); done) | (repeat (first | exact Has.here | refine Has.there ?_))) | exact RdB.nil _ _) (by omega) (by omega) | exact RdB.pre' (by first | with_reducible assumption | with_reducible exact RdB.mem (by with_reducible assumption) M | exact M.rdB (by first | ((repeat (first | with_reducible exact Has.here | with_reducible refine Has.there ?_)); done) | (repeat (first | exact Has.here | refine Has.there ?_))) | exact RdH.at (by assumption) (M.sel (by first | ((repeat (first | with_reducible exact Sel.refl | with_reducible exact Sel.nil | with_reducible exact Del.here | with_reducible apply Del.there | with_reducible apply Sel.cons | with_reducible apply Sel.drop)); done) | (repeat (first | exact Sel.refl | exact Sel.nil | exact Del.here | apply Del.there | apply Sel.cons | apply Sel.drop)))) | exact M.rdLit' (by first | ((repeat (first | with_reducible exact Has.here | with_reducible refine Has.there ?_)); done) | (repeat (first | exact Has.here | refine Has.there ?_))) | exact M.rdLent (by first | ((repeat (first | with_reducible exact Has.here | with_reducible refine Has.there ?_)); done) | (repeat (first | exact Has.here | refine Has.there ?_))) | exact RdB.nil _ _) (by omega) | exact RdB.suf (by first | with_reducible assumption | with_reducible exact RdB.mem (by with_reducible assumption) M | exact M.rdB (by first | ((repeat (first | with_reducible exact Has.here | with_reducible refine Has.there ?_)); done) | (repeat (first | exact Has.here | refine Has.there ?_))) | exact RdH.at (by assumption) (M.sel (by first | ((repeat (first | with_reducible exact Sel.refl | with_reducible exact Sel.nil | with_reducible exact Del.here | with_reducible apply Del.there | with_reducible apply Sel.cons | with_reducible apply Sel.drop)); done) | (repeat (first | exact Sel.refl | exact Sel.nil | exact Del.here | apply Del.there | apply Sel.cons | apply Sel.drop)))) | exact M.rdLit' (by first | ((repeat (first | with_reducible exact Has.here | with_reducible refine Has.there ?_)); done) | (repeat (first | exact Has.here | refine Has.there ?_))) | exact M.rdLent (by first | ((repeat (first | with_reducible exact Has.here | with_reducible refine Has.there ?_)); done) | (repeat (first | exact Has.here | refine Has.there ?_))) | exact RdB.nil _ _) (by omega))) rfl ?_
          rintro _ _ ⟨rfl, rfl⟩
          refine WL.pickT rfl rfl rfl ?_
          refine WL.moveIf rfl rfl (fun c16 => ?_) (fun c16 => ?_)
          · refine WL.on rfl rfl ?_
            refine WL.call Try.call9 rfl (known20_ok _) rfl ?_
            rintro _ w ⟨rfl, m⟩
            replace M := M.call0 m; clear m
            refine WL.pickT rfl rfl rfl ?_
            refine WL.assign rfl rfl ?_
            refine WL.nil ?_
            refine WX.next ?_
            refine W.sub [(6, _)] (.cons rfl .nil) ?_
            refine W.ret ?_
            refine WX.ret1 rfl rfl ?_
            exact ⟨by simp, M.sel (by first | ((repeat (first | with_reducible exact Sel.refl | with_reducible exact Sel.nil | with_reducible exact Del.here | with_reducible apply Del.there | with_reducible apply Sel.cons | with_reducible apply Sel.drop)); done) | (repeat (first | exact Sel.refl | exact Sel.nil | exact Del.here | apply Del.there | apply Sel.cons | apply Sel.drop)))⟩
          · exact absurd e1 c16
        · exact absurd (by omega) c15
      · exact absurd rfl c14
end Go.Proofs.Ytinbcidgdbmcjaa
