/-
  Walks: End, Clients, Counts (once); a table that is not there.
-/
import Derived.Test.YtmogpoghngmnmaaOnce4
namespace Go.Proofs.Ytmogpoghngmnmaa
open Go Go.RowKit

def EndAns (t : Tb) (id num : Nat) (rep : List UInt8) (g : Nat) (w0 : World) (L : List Asr) (v : Value) (w' : World) : Prop :=
  v = .int .i64 (endE t id num rep) ∧ ∃ x' : OT, g = x'.g ∧ x'.s = endS t id num rep ∧ x'.ok ∧ Mem w0 w' (x'.L ++ L)

set_option maxRecDepth 10000 in
set_option maxHeartbeats 1000000 in
theorem End_ok (x : OT) (hok : x.ok) (id num : Nat) (hid : id < 18446744073709551616) (hnum : num < 18446744073709551616) (B : Option Addr) (cB : Nat) (rep : List UInt8) (w0 w : World) (L : List Asr) (M : Mem w0 w (x.L ++ L)) (hb : RdH w0 L B cB rep) :
    Fn Try.prog 14 [.pointer (some ⟨x.g, 0, none⟩), .int .u64 (id : Int), .int .u64 (num : Int), .slice B rep.length cB] w (EndAns x.s id num rep x.g w0 L) := by
  have hS := endS_ok (rep := rep) hok.s hid hnum
  have hlen := hok.s.len
  have hmost := hok.s.most
  have hU := uniq_of hok.s.nodup
  have M0 := M
  obtain ⟨T, hT⟩ : ∃ T, T = x.s := ⟨_, rfl⟩
  rw [← hT] at hS ⊢
  have hTp : posN T.l id = posC x.cs id := by rw [hT, posC_key]; rfl
  have hTl : T.l.length = x.cs.length := by rw [hT]; exact List.length_map ..
  have hTe : ∀ k, k < x.cs.length → el T.l k = (el x.cs k).key := fun k hk => by rw [hT]; exact el_map _ _ _ hk
  have hTm : T.most = x.most := by rw [hT]; rfl
  have hTb : T.begun = x.begun := by rw [hT]; rfl
  have hTw : T.was = x.was := by rw [hT]; rfl
  have hTL : T.l = x.cs.map ClX.key := by rw [hT]; rfl
  have hple : posC x.cs id ≤ x.cs.length := by rw [posC_key]; simpa using pos_le (x.cs.map ClX.key) id
  have hm := hok.made
  rw [show x.s.l.length = x.cs.length from List.length_map ..] at hlen
  rw [show x.s.most = x.most from rfl] at hlen hmost
  have same : ∀ (e : Int) (x' : OT), x.g = x'.g → x'.s = T → x'.ok → e = endE T id num rep → e ≠ 0 → ∀ w', Mem w0 w' (x'.L ++ L) → EndAns T id num rep x.g w0 L (.int .i64 e) w' := by
    rintro e x' hg hs ho rfl he w' M'
    exact ⟨rfl, x', hg, by unfold endS; rw [if_neg he, hs], ho, M'⟩
  obtain ⟨g, most, A, cap, cs, gi, made, begun, was⟩ := x
  dsimp only at *
  obtain ⟨p, hp⟩ : ∃ p, p = posC cs id := ⟨_, rfl⟩
  rw [← hp] at hTp hple
  refine Fn.enter Try.func14 rfl Try.ntmps14 rfl ?_
  refine W.sub [(0, _), (1, _), (2, _), (3, _)] (.cons rfl (.cons rfl (.cons rfl (.cons rfl .nil)))) ?_
  refine W.seq ?_
  refine W.region ?_
  refine WL.assign rfl rfl ?_
  refine WL.nil ?_
  refine WX.next ?_
  refine W.sub [(0, _), (1, _), (2, _), (3, _)] (.cons rfl (.cons rfl (.cons rfl (.cons rfl .nil)))) ?_
  refine W.seq ?_
  refine W.block ?_
  refine W.seq ?_
  refine W.region ?_
  refine WL.move rfl rfl ?_
  refine WL.eqNilF Try.underlying25 rfl rfl rfl ?_
  refine WL.assign rfl rfl ?_
  refine WL.nil ?_
  refine WX.next ?_
  refine W.sub [(0, _), (1, _), (2, _), (3, _), (10, _)] (.cons rfl (.cons rfl (.cons rfl (.cons rfl (.cons rfl .nil))))) ?_
  refine W.condF rfl ?_
  refine W.seq ?_
  refine W.region ?_
  refine WL.move rfl rfl ?_
  refine WL.len Try.underlying32 rfl rfl ?_
  refine WL.gtr rfl rfl rfl ?_
  refine WL.assign rfl rfl ?_
  refine WL.nil ?_
  refine WX.next ?_
  refine W.sub [(0, _), (1, _), (2, _), (3, _), (13, _)] (.cons rfl (.cons rfl (.cons rfl (.cons rfl (.cons rfl .nil))))) ?_
  refine W.ite rfl (fun c1 => ?_) (fun c1 => ?_)
  · refine W.seq ?_
    refine W.region ?_
    refine WL.assign rfl rfl ?_
    refine WL.nil ?_
    refine WX.next ?_
    refine W.sub [(8, _)] (.cons rfl .nil) ?_
    refine W.ret ?_
    refine WX.blockRet ?_
    refine WX.thenRet ?_
    refine WX.ret1 rfl rfl ?_
    exact same 3 _ rfl hT.symm hok (by unfold endE; rw [if_pos (by omega)]) (by decide) _ M0
  · refine W.skip ?_
    refine WX.blockNormal ?_
    refine WX.next ?_
    refine W.seq ?_
    refine W.region ?_
    refine WL.move rfl rfl ?_
    refine WL.move rfl rfl ?_
    refine WL.call Try.call30 rfl (find_ok ⟨g, most, A, cap, cs, gi, made, begun, was⟩ (by dsimp only; omega) hU hm id w0 w L M0) rfl ?_
    rintro _ w ⟨rfl, ⟨pm, hpm⟩, M⟩
    rw [← hp]
    dsimp only
    have M1 := M
    unfold OT.L OT.row at M
    simp only [List.cons_append, List.nil_append] at M
    (try dsimp only at M)
    refine WL.assign rfl rfl ?_
    refine WL.nil ?_
    refine WX.next ?_
    refine W.sub [(0, _), (1, _), (2, _), (3, _), (9, _)] (.cons rfl (.cons rfl (.cons rfl (.cons rfl (.cons rfl .nil))))) ?_
    refine W.seq ?_
    refine W.seq ?_
    refine W.region ?_
    refine WL.move rfl rfl ?_
    refine WL.lss rfl rfl rfl ?_
    refine WL.moveIf rfl rfl (fun c2 => ?_) (fun c2 => ?_)
    · have hat : ¬ p < cs.length := by
        intro h
        rw [atI_in h] at c2
        omega
      refine WL.off rfl rfl rfl rfl ?_
      refine WL.off rfl rfl rfl rfl ?_
      refine WL.off rfl rfl rfl rfl ?_
      refine WL.off rfl rfl rfl rfl ?_
      refine WL.off rfl rfl rfl rfl ?_
      refine WL.off rfl rfl rfl rfl ?_
      refine WL.off rfl rfl rfl rfl ?_
      refine WL.off rfl rfl rfl rfl ?_
      refine WL.off rfl rfl rfl rfl ?_
      refine WL.off rfl rfl rfl rfl ?_
      refine WL.pickT rfl rfl rfl ?_
      refine WL.move rfl rfl ?_
      refine WL.off rfl rfl rfl rfl ?_
      refine WL.off rfl rfl rfl rfl ?_
      refine WL.off rfl rfl rfl rfl ?_
      refine WL.off rfl rfl rfl rfl ?_
      refine WL.off rfl rfl rfl rfl ?_
      refine WL.off rfl rfl rfl rfl ?_
      refine WL.off rfl rfl rfl rfl ?_
      refine WL.off rfl rfl rfl rfl ?_
      refine WL.off rfl rfl rfl rfl ?_
      refine WL.pickT rfl rfl rfl ?_
      refine WL.nil ?_
      refine WX.next ?_
      refine W.sub [(0, _), (1, _), (2, _), (3, _), (9, _), (44, _)] (.cons rfl (.cons rfl (.cons rfl (.cons rfl (.cons rfl (.cons rfl .nil)))))) ?_
      refine W.condT rfl ?_
      refine W.seq ?_
      refine W.region ?_
      refine WL.assign rfl rfl ?_
      refine WL.nil ?_
      refine WX.next ?_
      refine W.sub [(8, _)] (.cons rfl .nil) ?_
      refine W.ret ?_
      refine WX.thenRet ?_
      refine WX.ret1 rfl rfl ?_
      have hno : ¬ endOk T id num := by
        unfold endOk
        rw [hTp, hTl]
        first
        | exact fun h => hat h.1
        | (rw [hTe p hat]; rintro ⟨_, h2, h3⟩; have h2' : (el cs p).num = num := h2; omega)
        | (rw [hTe p hat]; rintro ⟨_, h2, h3⟩; have h3' : (el cs p).busy = true := h3; rw [h3'] at c4; simp at c4)
      exact same 4 ⟨g, most, A, cap, cs, gi, some pm, begun, was⟩ rfl hT.symm ⟨hok.s, fun q hq => by cases hq; exact hpm⟩ (by unfold endE; rw [if_neg (by omega), if_neg hno]) (by decide) _ M1
    · have hat : p < cs.length := by
        apply Classical.byContradiction
        intro h
        rw [atI_out h] at c2
        omega
      have hai := atI_in hat
      refine WL.on rfl rfl ?_
      refine WL.move rfl rfl ?_
      refine WL.on rfl rfl ?_
      refine WL.nilCheck rfl rfl ?_
      refine WL.on rfl rfl ?_
      refine WL.fieldR (off := 1) Try.underlying88 rfl rfl Try.sizeOf41 rfl rfl rfl ?_
      refine WL.on rfl rfl ?_
      refine WL.loadR Try.isAgg41 rfl M (by first | ((repeat (first | with_reducible exact Has.here | with_reducible refine Has.there ?_)); done) | (repeat (first | exact Has.here | refine Has.there ?_))) rfl rfl ?_
      refine WL.on rfl rfl ?_
      refine WL.move rfl rfl ?_
      refine WL.on rfl rfl ?_
      refine WL.idxA Try.underlying41 Try.sizeOf45 rfl rfl (RdL.isSome (E := clientE) (by first | with_reducible assumption | with_reducible exact RdL.mem (by with_reducible assumption) M | exact M.rdL (by first | ((repeat (first | with_reducible exact Has.here | with_reducible refine Has.there ?_)); done) | (repeat (first | exact Has.here | refine Has.there ?_))) | exact RdLH.at (by assumption) (M.sel (by first | ((repeat (first | with_reducible exact Sel.refl | with_reducible exact Sel.nil | with_reducible exact Del.here | with_reducible apply Del.there | with_reducible apply Sel.cons | with_reducible apply Sel.drop)); done) | (repeat (first | exact Sel.refl | exact Sel.nil | exact Del.here | apply Del.there | apply Sel.cons | apply Sel.drop)))) | exact RdL.nil _ _ _) (by omega)) (by omega) (by omega) hai rfl ?_
      refine WL.on rfl rfl ?_
      refine WL.fieldA (off := 1) Try.underlying45 rfl rfl Try.sizeOf29 rfl rfl rfl ?_
      refine WL.on rfl rfl ?_
      refine WL.loadE (E := clientE) Try.isAgg29 rfl (by first | with_reducible assumption | with_reducible exact RdL.mem (by with_reducible assumption) M | exact M.rdL (by first | ((repeat (first | with_reducible exact Has.here | with_reducible refine Has.there ?_)); done) | (repeat (first | exact Has.here | refine Has.there ?_))) | exact RdLH.at (by assumption) (M.sel (by first | ((repeat (first | with_reducible exact Sel.refl | with_reducible exact Sel.nil | with_reducible exact Del.here | with_reducible apply Del.there | with_reducible apply Sel.cons | with_reducible apply Sel.drop)); done) | (repeat (first | exact Sel.refl | exact Sel.nil | exact Del.here | apply Del.there | apply Sel.cons | apply Sel.drop)))) | exact RdL.nil _ _ _) (by omega) rfl rfl ?_
      refine WL.on rfl rfl ?_
      refine WL.move rfl rfl ?_
      refine WL.on rfl rfl ?_
      refine WL.neI rfl rfl rfl ?_
      refine WL.pickF rfl rfl rfl ?_
      refine WL.moveIf rfl rfl (fun c3 => ?_) (fun c3 => ?_)
      · refine WL.off rfl rfl rfl rfl ?_
        refine WL.off rfl rfl rfl rfl ?_
        refine WL.off rfl rfl rfl rfl ?_
        refine WL.off rfl rfl rfl rfl ?_
        refine WL.off rfl rfl rfl rfl ?_
        refine WL.off rfl rfl rfl rfl ?_
        refine WL.off rfl rfl rfl rfl ?_
        refine WL.off rfl rfl rfl rfl ?_
        refine WL.off rfl rfl rfl rfl ?_
        refine WL.pickT rfl rfl rfl ?_
        refine WL.nil ?_
        refine WX.next ?_
        refine W.sub [(0, _), (1, _), (2, _), (3, _), (9, _), (44, _)] (.cons rfl (.cons rfl (.cons rfl (.cons rfl (.cons rfl (.cons rfl .nil)))))) ?_
        refine W.condT rfl ?_
        refine W.seq ?_
        refine W.region ?_
        refine WL.assign rfl rfl ?_
        refine WL.nil ?_
        refine WX.next ?_
        refine W.sub [(8, _)] (.cons rfl .nil) ?_
        refine W.ret ?_
        refine WX.thenRet ?_
        refine WX.ret1 rfl rfl ?_
        have hno : ¬ endOk T id num := by
          unfold endOk
          rw [hTp, hTl]
          first
          | exact fun h => hat h.1
          | (rw [hTe p hat]; rintro ⟨_, h2, h3⟩; have h2' : (el cs p).num = num := h2; omega)
          | (rw [hTe p hat]; rintro ⟨_, h2, h3⟩; have h3' : (el cs p).busy = true := h3; rw [h3'] at c4; simp at c4)
        exact same 4 ⟨g, most, A, cap, cs, gi, some pm, begun, was⟩ rfl hT.symm ⟨hok.s, fun q hq => by cases hq; exact hpm⟩ (by unfold endE; rw [if_neg (by omega), if_neg hno]) (by decide) _ M1
      · refine WL.on rfl rfl ?_
        refine WL.move rfl rfl ?_
        refine WL.on rfl rfl ?_
        refine WL.nilCheck rfl rfl ?_
        refine WL.on rfl rfl ?_
        refine WL.fieldR (off := 1) Try.underlying88 rfl rfl Try.sizeOf41 rfl rfl rfl ?_
        refine WL.on rfl rfl ?_
        refine WL.loadR Try.isAgg41 rfl M (by first | ((repeat (first | with_reducible exact Has.here | with_reducible refine Has.there ?_)); done) | (repeat (first | exact Has.here | refine Has.there ?_))) rfl rfl ?_
        refine WL.on rfl rfl ?_
        refine WL.move rfl rfl ?_
        refine WL.on rfl rfl ?_
        refine WL.idxA Try.underlying41 Try.sizeOf45 rfl rfl (RdL.isSome (E := clientE) (by first | with_reducible assumption | with_reducible exact RdL.mem (by with_reducible assumption) M | exact M.rdL (by first | ((repeat (first | with_reducible exact Has.here | with_reducible refine Has.there ?_)); done) | (repeat (first | exact Has.here | refine Has.there ?_))) | exact RdLH.at (by assumption) (M.sel (by first | ((repeat (first | with_reducible exact Sel.refl | with_reducible exact Sel.nil | with_reducible exact Del.here | with_reducible apply Del.there | with_reducible apply Sel.cons | with_reducible apply Sel.drop)); done) | (repeat (first | exact Sel.refl | exact Sel.nil | exact Del.here | apply Del.there | apply Sel.cons | apply Sel.drop)))) | exact RdL.nil _ _ _) (by omega)) (by omega) (by omega) hai rfl ?_
        refine WL.on rfl rfl ?_
        refine WL.fieldA (off := 2) Try.underlying45 rfl rfl Try.sizeOf4 rfl rfl rfl ?_
        refine WL.on rfl rfl ?_
        refine WL.loadE (E := clientE) Try.isAgg4 rfl (by first | with_reducible assumption | with_reducible exact RdL.mem (by with_reducible assumption) M | exact M.rdL (by first | ((repeat (first | with_reducible exact Has.here | with_reducible refine Has.there ?_)); done) | (repeat (first | exact Has.here | refine Has.there ?_))) | exact RdLH.at (by assumption) (M.sel (by first | ((repeat (first | with_reducible exact Sel.refl | with_reducible exact Sel.nil | with_reducible exact Del.here | with_reducible apply Del.there | with_reducible apply Sel.cons | with_reducible apply Sel.drop)); done) | (repeat (first | exact Sel.refl | exact Sel.nil | exact Del.here | apply Del.there | apply Sel.cons | apply Sel.drop)))) | exact RdL.nil _ _ _) (by omega) rfl rfl ?_
        refine WL.on rfl rfl ?_
        refine WL.not rfl rfl ?_
        refine WL.pickF rfl rfl rfl ?_
        refine WL.nil ?_
        refine WX.next ?_
        refine W.sub [(0, _), (1, _), (2, _), (3, _), (9, _), (44, _)] (.cons rfl (.cons rfl (.cons rfl (.cons rfl (.cons rfl (.cons rfl .nil)))))) ?_
        refine W.cond rfl (fun c4 => ?_) (fun c4 => ?_)
        · (try simp only [Bool.not_eq_true'] at c4); (try simp only [Bool.not_eq_false'] at c4); (try simp only [decide_eq_true_eq] at c4); (try simp only [decide_eq_false_iff_not] at c4)
          refine W.seq ?_
          refine W.region ?_
          refine WL.assign rfl rfl ?_
          refine WL.nil ?_
          refine WX.next ?_
          refine W.sub [(8, _)] (.cons rfl .nil) ?_
          refine W.ret ?_
          refine WX.thenRet ?_
          refine WX.ret1 rfl rfl ?_
          have hno : ¬ endOk T id num := by
            unfold endOk
            rw [hTp, hTl]
            first
            | exact fun h => hat h.1
            | (rw [hTe p hat]; rintro ⟨_, h2, h3⟩; have h2' : (el cs p).num = num := h2; omega)
            | (rw [hTe p hat]; rintro ⟨_, h2, h3⟩; have h3' : (el cs p).busy = true := h3; rw [h3'] at c4; simp at c4)
          exact same 4 ⟨g, most, A, cap, cs, gi, some pm, begun, was⟩ rfl hT.symm ⟨hok.s, fun q hq => by cases hq; exact hpm⟩ (by unfold endE; rw [if_neg (by omega), if_neg hno]) (by decide) _ M1
        · (try simp only [Bool.not_eq_true'] at c4); (try simp only [Bool.not_eq_false'] at c4); (try simp only [decide_eq_true_eq] at c4); (try simp only [decide_eq_false_iff_not] at c4)
          refine W.skip ?_
          refine WX.next ?_
          refine W.seq ?_
          refine W.region ?_
          refine WL.move rfl rfl ?_
          refine WL.move rfl rfl ?_
          refine WL.move rfl rfl ?_
          refine WL.move rfl rfl ?_
          refine WL.buildB (es := []) Try.elem5 M rfl rfl (by exact BytesOf.nil) (by rfl) rfl rfl ?_
          intro g8_4 w M
          refine WL.move rfl rfl ?_
          refine WL.appendBN Try.elem5 rfl rfl M (by first | ((repeat (first | with_reducible exact Del.here | with_reducible apply Del.there)); done) | (repeat (first | exact Del.here | apply Del.there))) (by first | first | with_reducible assumption | with_reducible exact RdB.mem (by with_reducible assumption) M | exact M.rdB (by first | ((repeat (first | with_reducible exact Has.here | with_reducible refine Has.there ?_)); done) | (repeat (first | exact Has.here | refine Has.there ?_))) | exact RdH.at (by assumption) (M.sel (by first | ((repeat (first | with_reducible exact Sel.refl | with_reducible exact Sel.nil | with_reducible exact Del.here | with_reducible apply Del.there | with_reducible apply Sel.cons | with_reducible apply Sel.drop)); done) | (repeat (first | exact Sel.refl | exact Sel.nil | exact Del.here | apply Del.there | apply Sel.cons | apply Sel.drop)))) | exact M.rdLit' (by first | ((repeat (first | with_reducible exact Has.here | with_reducible refine Has.there ?_)); done) | (repeat (first | exact Has.here | refine Has.there ?_))) | exact M.rdLent (by first | ((repeat (first | with_reducible exact Has.here | with_reducible refine Has.there ?_)); done) | (repeat (first | exact Has.here | refine Has.there ?_))) | exact RdB.nil _ _ | exact RdB.sub (by first | with_reducible assumption | with_reducible exact RdB.mem (by with_reducible assumption) M | exact M.rdB (by first | ((repeat (first | with_reducible exact Has.here | with_reducible refine Has.there ?_)); done) | (repeat (first | exact Has.here | refine Has.there ?_))) | exact RdH.at (by assumption) (M.sel (by first | ((repeat (first | with_reducible exact Sel.refl | with_reducible exact Sel.nil | with_reducible exact Del.here | with_reducible apply Del.there | with_reducible apply Sel.cons | with_reducible apply Sel.drop)); done) | (repeat (first | exact Sel.refl | exact Sel.nil | exact Del.here | apply Del.there | apply Sel.cons | apply Sel.drop)))) | exact M.rdLit' (by first | ((repeat (first | with_reducible exact Has.here | with_reducible refine Has.there ?_)); done) | (repeat (first | exact Has.here | refine Has.there ?_))) | exact M.rdLent (by first | ((repeat (first | with_reducible exact Has.here | with_reducible refine Has.there ?_)); done) | (repeat (first | exact Has.here | refine Has.there ?_))) | exact RdB.nil _ _) (by omega) (by omega) | exact RdB.pre' (by first | with_reducible assumption | with_reducible exact RdB.mem (by with_reducible assumption) M | exact M.rdB (by first | ((repeat (first | with_reducible exact Has.here | with_reducible refine Has.there ?_)); done) | (repeat (first | exact Has.here | refine Has.there ?_))) | exact RdH.at (by assumption) (M.sel (by first | ((repeat (first | with_reducible exact Sel.refl | with_reducible exact Sel.nil | with_reducible exact Del.here | with_reducible apply Del.there | with_reducible apply Sel.cons | with_reducible apply Sel.drop)); done) | (repeat (first | exact Sel.refl | exact Sel.nil | exact Del.here | apply Del.there | apply Sel.cons | apply Sel.drop)))) | exact M.rdLit' (by first | ((repeat (first | with_reducible exact Has.here | with_reducible refine Has.there ?_)); done) | (repeat (first | exact Has.here | refine Has.there ?_))) | exact M.rdLent (by first | ((repeat (first | with_reducible exact Has.here | with_reducible refine Has.there ?_)); done) | (repeat (first | exact Has.here | refine Has.there ?_))) | exact RdB.nil _ _) (by omega) | exact RdB.suf (by first | with_reducible assumption | with_reducible exact RdB.mem (by with_reducible assumption) M | exact M.rdB (by first | ((repeat (first | with_reducible exact Has.here | with_reducible refine Has.there ?_)); done) | (repeat (first | exact Has.here | refine Has.there ?_))) | exact RdH.at (by assumption) (M.sel (by first | ((repeat (first | with_reducible exact Sel.refl | with_reducible exact Sel.nil | with_reducible exact Del.here | with_reducible apply Del.there | with_reducible apply Sel.cons | with_reducible apply Sel.drop)); done) | (repeat (first | exact Sel.refl | exact Sel.nil | exact Del.here | apply Del.there | apply Sel.cons | apply Sel.drop)))) | exact M.rdLit' (by first | ((repeat (first | with_reducible exact Has.here | with_reducible refine Has.there ?_)); done) | (repeat (first | exact Has.here | refine Has.there ?_))) | exact M.rdLent (by first | ((repeat (first | with_reducible exact Has.here | with_reducible refine Has.there ?_)); done) | (repeat (first | exact Has.here | refine Has.there ?_))) | exact RdB.nil _ _) (by omega)) rfl rfl (by first | omega | (simp; done) | (simp; omega)) rfl ?_
          intro A8_6 cap8_6 w M
          refine WL.buildP (places := #[(0, 1), (1, 1), (2, 1), (3, 1)]) Try.underlying45 Try.zeroValue45 (fun _ => by simp [Try.sizeOf29, Try.sizeOf29, Try.sizeOf4, Try.sizeOf32]) rfl (by repeat (first | exact Puts.nil | exact SetAt.zero | apply SetAt.succ | apply Puts.cons rfl rfl)) rfl ?_
          refine WL.call Try.call31 rfl (use_ok g gi most A cap cs _ _ p hple (by omega) ⟨id, num, false, A8_6, cap8_6, rep⟩ w0 w _ (M.sel (K := Asr.row g 88 [.int .i64 (most : Int), .slice A cs.length cap, .pointer (some ⟨gi, 0, none⟩), .int .i64 (begun : Int), .int .i64 (was : Int)] :: Asr.lst clientE A cap cs :: Asr.star (cs.map ClX.O) :: Asr.own 5 1 A8_6 rep.length cap8_6 (bs rep) :: L) (by first | ((repeat (first | with_reducible exact Sel.refl | with_reducible exact Sel.nil | with_reducible exact Del.here | with_reducible apply Del.there | with_reducible apply Sel.cons | with_reducible apply Sel.drop)); done) | (repeat (first | exact Sel.refl | exact Sel.nil | exact Del.here | apply Del.there | apply Sel.cons | apply Sel.drop))))) rfl ?_
          rintro _ w ⟨rfl, A2, cap2, gi2, M⟩
          refine WL.nil ?_
          refine WX.next ?_
          refine W.sub [] .nil ?_
          refine W.seq ?_
          refine W.region ?_
          refine WL.assign rfl rfl ?_
          refine WL.nil ?_
          refine WX.next ?_
          refine W.sub [(8, _)] (.cons rfl .nil) ?_
          refine W.ret ?_
          refine WX.ret1 rfl rfl ?_
          have hyes : endOk T id num := by
            unfold endOk
            rw [hTp, hTl, hTe p hat]
            exact ⟨hat, (show (el cs p).num = num by omega), (show (el cs p).busy = true by simpa using c4)⟩
          have he : endE T id num rep = 0 := by unfold endE; rw [if_neg (by omega), if_pos hyes]
          obtain ⟨c9, hc9⟩ : ∃ c : ClX, c = ⟨id, num, false, A8_6, cap8_6, rep⟩ := ⟨_, rfl⟩
          rw [← hc9] at M
          have e2 : endS T id num rep = ⟨most, (cs.eraseIdx p ++ [c9]).map ClX.key, begun, was⟩ := by
            unfold endS
            rw [if_pos he, hTm, hTb, hTw, hTp, hTL, List.map_append, map_eraseIdx', hc9]
            rfl
          have M5 := Mem.starErase (M.sel (K := Asr.star (cs.map ClX.O) :: Asr.own 5 1 A8_6 rep.length cap8_6 (bs rep) :: Asr.row g 88 [.int .i64 (most : Int), .slice A2 (cs.eraseIdx p ++ [c9]).length cap2, .pointer (some ⟨gi2, 0, none⟩), .int .i64 (begun : Int), .int .i64 (was : Int)] :: Asr.lst clientE A2 cap2 (cs.eraseIdx p ++ [c9]) :: Asr.star (ixL gi2 none) :: L) (by first | ((repeat (first | with_reducible exact Sel.refl | with_reducible exact Sel.nil | with_reducible exact Del.here | with_reducible apply Del.there | with_reducible apply Sel.cons | with_reducible apply Sel.drop)); done) | (repeat (first | exact Sel.refl | exact Sel.nil | exact Del.here | apply Del.there | apply Sel.cons | apply Sel.drop)))) p
          have M6 := Mem.starSnoc M5.f1
          rw [show (cs.eraseIdx p).map ClX.O ++ [Asr.own 5 1 A8_6 rep.length cap8_6 (bs rep)] = (cs.eraseIdx p ++ [c9]).map ClX.O by rw [List.map_append, hc9]; rfl] at M6
          refine ⟨by rw [he], ⟨g, most, A2, cap2, cs.eraseIdx p ++ [c9], gi2, none, begun, was⟩, rfl, e2.symm, ⟨?_, fun q hq => by cases hq⟩, ?_⟩
          · rw [e2] at hS; exact hS
          · unfold OT.L OT.row
            exact M6.sel (by first | ((repeat (first | with_reducible exact Sel.refl | with_reducible exact Sel.nil | with_reducible exact Del.here | with_reducible apply Del.there | with_reducible apply Sel.cons | with_reducible apply Sel.drop)); done) | (repeat (first | exact Sel.refl | exact Sel.nil | exact Del.here | apply Del.there | apply Sel.cons | apply Sel.drop)))

/-- What is told of clients is its owner's. -/
theorem Clients_ok (x : OT) (hok : x.ok) (w0 w : World) (L : List Asr) (M : Mem w0 w (x.L ++ L)) :
    Fn Try.prog 15 [.pointer (some ⟨x.g, 0, none⟩)] w fun v w' => ∃ (A' : Option Addr) (cap' : Nat) (ds : List ClX), v = .slice A' ds.length cap' ∧ ds.map ClX.key = x.s.l ∧
      Mem w0 w' (Asr.lst clientE A' cap' ds :: Asr.star (ds.map ClX.O) :: (x.L ++ L)) := by
  have hlen := hok.s.len
  have hmost := hok.s.most
  have hrep : ∀ k, k < x.cs.length → (el x.cs k).rep.length ≤ 200 := fun k hk => (hok.s.each _ (List.mem_map.2 ⟨_, el_mem hk, rfl⟩)).rep
  rw [show x.s.l.length = x.cs.length from List.length_map ..] at hlen
  rw [show x.s.most = x.most from rfl] at hlen hmost
  obtain ⟨g, most, A, cap, cs, gi, made, begun, was⟩ := x
  unfold OT.L OT.row at M ⊢
  unfold OT.s
  simp only [List.cons_append, List.nil_append] at M ⊢
  dsimp only at *
  refine Fn.enter Try.func15 rfl Try.ntmps15 rfl ?_
  refine W.sub [(0, _)] (.cons rfl .nil) ?_
  refine W.seq ?_
  refine W.region ?_
  refine WL.assign rfl rfl ?_
  refine WL.nil ?_
  refine WX.next ?_
  refine W.sub [(0, _)] (.cons rfl .nil) ?_
  refine W.seq ?_
  refine W.seq ?_
  refine W.region ?_
  refine WL.move rfl rfl ?_
  refine WL.eqNilF Try.underlying25 rfl rfl rfl ?_
  refine WL.nil ?_
  refine WX.next ?_
  refine W.sub [(0, _), (7, _)] (.cons rfl (.cons rfl .nil)) ?_
  refine W.condF rfl ?_
  refine W.skip ?_
  refine WX.next ?_
  refine W.seq ?_
  refine W.region ?_
  refine WL.assign rfl rfl ?_
  refine WL.nil ?_
  refine WX.next ?_
  refine W.sub [(0, _), (3, _)] (.cons rfl (.cons rfl .nil)) ?_
  refine W.seq ?_
  refine W.seq ?_
  refine W.region ?_
  refine WL.move rfl rfl ?_
  refine WL.nilCheck rfl rfl ?_
  refine WL.fieldR (off := 1) Try.underlying88 rfl rfl Try.sizeOf41 rfl rfl rfl ?_
  refine WL.loadR Try.isAgg41 rfl M (by first | ((repeat (first | with_reducible exact Has.here | with_reducible refine Has.there ?_)); done) | (repeat (first | exact Has.here | refine Has.there ?_))) rfl rfl ?_
  refine WL.len Try.underlying41 rfl rfl ?_
  refine WL.move rfl rfl ?_
  refine WL.nil ?_
  refine WX.next ?_
  refine W.sub [(3, _), (11, _), (12, _), (13, _)] (.cons rfl (.cons rfl (.cons rfl (.cons rfl .nil)))) ?_
  refine W.block ?_
  refine W.loop (ι := Nat × (Option Addr × Nat × List ClX)) (fun z => [(3, .slice z.2.1 z.2.2.2.length z.2.2.1), (11, .slice A cs.length cap), (12, .int .i64 (cs.length : Int)), (13, .int .i64 (z.1 : Int))]) (fun zz w => Mem w0 w ((fun z => Asr.lst clientE z.2.1 z.2.2.1 z.2.2.2 :: Asr.star (z.2.2.2.map ClX.O) :: Asr.row g 88 [.int .i64 (most : Int), .slice A cs.length cap, .pointer (some ⟨gi, 0, none⟩), .int .i64 (begun : Int), .int .i64 (was : Int)] :: Asr.lst clientE A cap cs :: Asr.star (cs.map ClX.O) :: Asr.star (ixL gi made) :: L) zz) ∧ (fun z => z.1 ≤ cs.length ∧ z.2.2.2.map ClX.key = (cs.take z.1).map ClX.key) zz) (fun z => cs.length - z.1) ((0, (none, 0, []))) (by (repeat' (first | exact envSub.nil | refine envSub.cons ?_ ?_)) <;> first | rfl | (refine congrArg some ?_; refine congrArg (Value.int _) ?_; first | omega | (dsimp only; omega)) | (simp; done) | (refine congrArg some ?_; dsimp only; congr 1; omega) | (simp; omega)) ⟨Mem.nilOwn (Mem.starNil M) 45 4, ⟨by simp, rfl⟩⟩ ?_
  clear M; rintro (⟨i, B, c, ds⟩) w ⟨M, ⟨hi, hds⟩⟩; dsimp only at M hi hds ⊢
  refine W.sub [(3, _), (11, _), (12, _), (13, _)] (.cons rfl (.cons rfl (.cons rfl (.cons rfl .nil)))) ?_
  refine W.seq ?_
  refine W.region ?_
  refine WL.lss rfl rfl rfl ?_
  refine WL.nil ?_
  refine WX.next ?_
  refine W.sub [(3, _), (11, _), (12, _), (13, _), (14, _)] (.cons rfl (.cons rfl (.cons rfl (.cons rfl (.cons rfl .nil))))) ?_
  refine W.seq ?_
  refine W.ite rfl (fun c1 => ?_) (fun c1 => ?_)
  · refine W.skip ?_
    refine WX.next ?_
    refine W.seq ?_
    refine W.block ?_
    refine W.seq ?_
    refine W.region ?_
    refine WL.idxA Try.underlying41 Try.sizeOf45 rfl rfl (RdL.isSome (E := clientE) (by first | with_reducible assumption | with_reducible exact RdL.mem (by with_reducible assumption) M | exact M.rdL (by first | ((repeat (first | with_reducible exact Has.here | with_reducible refine Has.there ?_)); done) | (repeat (first | exact Has.here | refine Has.there ?_))) | exact RdLH.at (by assumption) (M.sel (by first | ((repeat (first | with_reducible exact Sel.refl | with_reducible exact Sel.nil | with_reducible exact Del.here | with_reducible apply Del.there | with_reducible apply Sel.cons | with_reducible apply Sel.drop)); done) | (repeat (first | exact Sel.refl | exact Sel.nil | exact Del.here | apply Del.there | apply Sel.cons | apply Sel.drop)))) | exact RdL.nil _ _ _) (by omega)) (by omega) (by omega) (by first | exact rfl | exact (Int.toNat_of_nonneg (by omega)).symm) rfl ?_
    refine WL.loadL (E := clientE) (cs := [_, _, _, _]) Try.isAgg45 Try.sizeOf45 rfl (by first | with_reducible assumption | with_reducible exact RdL.mem (by with_reducible assumption) M | exact M.rdL (by first | ((repeat (first | with_reducible exact Has.here | with_reducible refine Has.there ?_)); done) | (repeat (first | exact Has.here | refine Has.there ?_))) | exact RdLH.at (by assumption) (M.sel (by first | ((repeat (first | with_reducible exact Sel.refl | with_reducible exact Sel.nil | with_reducible exact Del.here | with_reducible apply Del.there | with_reducible apply Sel.cons | with_reducible apply Sel.drop)); done) | (repeat (first | exact Sel.refl | exact Sel.nil | exact Del.here | apply Del.there | apply Sel.cons | apply Sel.drop)))) | exact RdL.nil _ _ _) rfl (by omega) rfl rfl ?_
    refine WL.alloc Try.zeroValue45 M rfl ?_
    intro g6_2 w M
    try simp only [Value.cells] at M
    try simp only [List.toList_toArray] at M
    refine WL.storeWA Try.sizeOf45 rfl rfl (by repeat (first | exact oneNil | refine oneCons rfl ?_)) rfl rfl M (by first | ((repeat (first | with_reducible exact Upd.here | with_reducible apply Upd.there)); done) | (repeat (first | exact Upd.here | apply Upd.there))) ?_
    intro w M
    refine WL.nil ?_
    refine WX.next ?_
    refine W.sub [(3, _), (5, _), (11, _), (12, _), (13, _)] (.cons rfl (.cons rfl (.cons rfl (.cons rfl (.cons rfl .nil))))) ?_
    refine W.seq ?_
    refine W.region ?_
    refine WL.buildB (es := []) Try.elem5 M rfl rfl (by exact BytesOf.nil) (by rfl) rfl rfl ?_
    intro g7_0 w M
    refine WL.fieldR (off := 3) Try.underlying45 rfl rfl Try.sizeOf32 rfl rfl rfl ?_
    refine WL.loadR Try.isAgg32 rfl M (by first | ((repeat (first | with_reducible exact Has.here | with_reducible refine Has.there ?_)); done) | (repeat (first | exact Has.here | refine Has.there ?_))) rfl rfl ?_
    refine WL.appendBN Try.elem5 rfl rfl M (by first | ((repeat (first | with_reducible exact Del.here | with_reducible apply Del.there)); done) | (repeat (first | exact Del.here | apply Del.there))) (show RdB w (el cs i).A (el cs i).cap (el cs i).rep from ownRd (M.starHas (f := ClX.O) (l := cs) (by first | ((repeat (first | with_reducible exact Has.here | with_reducible refine Has.there ?_)); done) | (repeat (first | exact Has.here | refine Has.there ?_))) (el_mem (by omega)))) rfl rfl (by have h200 := hrep i (by omega); simp; omega) rfl ?_
    intro A7_3 cap7_3 w M
    refine WL.fieldR (off := 3) Try.underlying45 rfl rfl Try.sizeOf32 rfl rfl rfl ?_
    refine WL.storeR Try.sizeOf32 rfl rfl rfl M (by first | ((repeat (first | with_reducible exact Has.here | with_reducible refine Has.there ?_)); done) | (repeat (first | exact Has.here | refine Has.there ?_))) (by repeat (first | exact SetAt.zero | apply SetAt.succ)) (by first | ((repeat (first | with_reducible exact Upd.here | with_reducible apply Upd.there)); done) | (repeat (first | exact Upd.here | apply Upd.there))) ?_
    intro w M
    refine WL.nil ?_
    refine WX.next ?_
    refine W.sub [(3, _), (5, _), (11, _), (12, _), (13, _)] (.cons rfl (.cons rfl (.cons rfl (.cons rfl (.cons rfl .nil))))) ?_
    have hdl : ds.length = i := by
      have := congrArg List.length hds
      simp at this
      omega
    refine W.region ?_
    refine WL.move rfl rfl ?_
    refine WL.loadW Try.isAgg45 Try.sizeOf45 rfl M (by first | ((repeat (first | with_reducible exact Has.here | with_reducible refine Has.there ?_)); done) | (repeat (first | exact Has.here | refine Has.there ?_))) rfl rfl ?_
    refine WL.buildL (E := clientE) (l := [⟨(el cs i).id, (el cs i).num, (el cs i).busy, A7_3, cap7_3, (el cs i).rep⟩]) Try.elem45 M rfl rfl rfl rfl rfl rfl ?_
    intro g8_2 w M
    refine WL.appendL (E := clientE) Try.elem45 rfl rfl M (by first | ((repeat (first | with_reducible exact Del.here | with_reducible apply Del.there)); done) | (repeat (first | exact Del.here | apply Del.there))) (by first | with_reducible assumption | with_reducible exact RdL.mem (by with_reducible assumption) M | exact M.rdL (by first | ((repeat (first | with_reducible exact Has.here | with_reducible refine Has.there ?_)); done) | (repeat (first | exact Has.here | refine Has.there ?_))) | exact RdLH.at (by assumption) (M.sel (by first | ((repeat (first | with_reducible exact Sel.refl | with_reducible exact Sel.nil | with_reducible exact Del.here | with_reducible apply Del.there | with_reducible apply Sel.cons | with_reducible apply Sel.drop)); done) | (repeat (first | exact Sel.refl | exact Sel.nil | exact Del.here | apply Del.there | apply Sel.cons | apply Sel.drop)))) | exact RdL.nil _ _ _) rfl rfl (by first | omega | (simp; done) | (simp; omega)) (by first | (simp only [maxLen]; omega) | (simp [maxLen]; done) | (simp [maxLen]; omega)) rfl ?_
    intro A8_3 cap8_3 w M
    refine WL.assign rfl rfl ?_
    refine WL.nil ?_
    refine WX.blockNormal ?_
    refine WX.next ?_
    refine W.sub [(3, _), (11, _), (12, _), (13, _)] (.cons rfl (.cons rfl (.cons rfl (.cons rfl .nil)))) ?_
    refine W.region ?_
    refine WL.add rfl rfl (by first | exact wI64 (by omega) | rfl) rfl ?_
    refine WL.move rfl rfl ?_
    refine WL.nil ?_
    skip
    obtain ⟨c9, hc9⟩ : ∃ c : ClX, c = ⟨(el cs i).id, (el cs i).num, (el cs i).busy, A7_3, cap7_3, (el cs i).rep⟩ := ⟨_, rfl⟩
    rw [← hc9] at M ⊢
    have q : (ds ++ [c9]).map ClX.key = (cs.take (i + 1)).map ClX.key := by
      rw [List.take_add_one, el_get (by omega), List.map_append, hds, List.map_append, hc9]
      rfl
    have M5 := Mem.starSnoc (M.sel (K := Asr.own 5 1 A7_3 (el cs i).rep.length cap7_3 (bs (el cs i).rep) :: Asr.star (ds.map ClX.O) :: Asr.lst clientE A8_3 cap8_3 (ds ++ [c9]) :: Asr.row g 88 [.int .i64 (most : Int), .slice A cs.length cap, .pointer (some ⟨gi, 0, none⟩), .int .i64 (begun : Int), .int .i64 (was : Int)] :: Asr.lst clientE A cap cs :: Asr.star (cs.map ClX.O) :: Asr.star (ixL gi made) :: L) (by first | ((repeat (first | with_reducible exact Sel.refl | with_reducible exact Sel.nil | with_reducible exact Del.here | with_reducible apply Del.there | with_reducible apply Sel.cons | with_reducible apply Sel.drop)); done) | (repeat (first | exact Sel.refl | exact Sel.nil | exact Del.here | apply Del.there | apply Sel.cons | apply Sel.drop))))
    rw [show ds.map ClX.O ++ [Asr.own 5 1 A7_3 (el cs i).rep.length cap7_3 (bs (el cs i).rep)] = (ds ++ [c9]).map ClX.O by rw [List.map_append, hc9]; rfl] at M5
    refine WX.round ((i + 1, (A8_3, cap8_3, ds ++ [c9]))) (by (repeat' (first | exact envSub.nil | refine envSub.cons ?_ ?_)) <;> first | rfl | (refine congrArg some ?_; refine congrArg (Value.int _) ?_; first | omega | (dsimp only; omega)) | (simp; done) | (refine congrArg some ?_; dsimp only; congr 1; omega) | (simp; omega)) ⟨M5.sel (by first | ((repeat (first | with_reducible exact Sel.refl | with_reducible exact Sel.nil | with_reducible exact Del.here | with_reducible apply Del.there | with_reducible apply Sel.cons | with_reducible apply Sel.drop)); done) | (repeat (first | exact Sel.refl | exact Sel.nil | exact Del.here | apply Del.there | apply Sel.cons | apply Sel.drop))), ⟨by dsimp only; omega, q⟩⟩ (by first | omega | (dsimp only; omega))
  · refine W.exit ?_
    refine WX.thenExit ?_
    refine WX.thenExit ?_
    refine WX.blockHere ?_
    refine WX.next ?_
    refine W.seq ?_
    refine W.region ?_
    refine WL.move rfl rfl ?_
    refine WL.assign rfl rfl ?_
    refine WL.nil ?_
    refine WX.next ?_
    refine W.sub [(2, _)] (.cons rfl .nil) ?_
    refine W.ret ?_
    refine WX.ret1 rfl rfl ?_
    refine ⟨B, c, ds, rfl, ?_, M⟩
    rw [hds, List.take_of_length_le (by omega)]

theorem Counts_ok (x : OT) (w0 w : World) (L : List Asr) (M : Mem w0 w (x.L ++ L)) :
    Fn Try.prog 18 [.pointer (some ⟨x.g, 0, none⟩)] w fun v w' => v = .tuple #[.int .i64 (x.begun : Int), .int .i64 (x.was : Int)] ∧ Mem w0 w' (x.L ++ L) := by
  obtain ⟨g, most, A, cap, cs, gi, made, begun, was⟩ := x
  unfold OT.L OT.row at M ⊢
  simp only [List.cons_append, List.nil_append] at M ⊢
  (try dsimp only at M ⊢)
  refine Fn.enter Try.func18 rfl Try.ntmps18 rfl ?_
  refine W.sub [(0, _)] (.cons rfl .nil) ?_
  refine W.seq ?_
  refine W.region ?_
  refine WL.assign rfl rfl ?_
  refine WL.assign rfl rfl ?_
  refine WL.nil ?_
  refine WX.next ?_
  refine W.sub [(0, _)] (.cons rfl .nil) ?_
  refine W.seq ?_
  refine W.seq ?_
  refine W.region ?_
  refine WL.move rfl rfl ?_
  refine WL.eqNilF Try.underlying25 rfl rfl rfl ?_
  refine WL.nil ?_
  refine WX.next ?_
  refine W.sub [(0, _), (5, _)] (.cons rfl (.cons rfl .nil)) ?_
  refine W.condF rfl ?_
  refine W.skip ?_
  refine WX.next ?_
  refine W.seq ?_
  refine W.drawM (_) (by kernel_rfl) (fun _ => false) M Sel.refl ?_
  clear M; intro M
  apply DG.pure_ [0, 1, 2, 4, 5, 6] 4 rfl (by kernel_rfl) (by kernel_rfl)
  · intro w
    refine WL.move rfl rfl ?_
    refine WL.nilCheck rfl rfl ?_
    refine WL.fieldR (off := 3) Try.underlying88 rfl rfl Try.sizeOf86 rfl rfl rfl ?_
    refine WL.move rfl rfl ?_
    refine WL.nilCheck rfl rfl ?_
    refine WL.fieldR (off := 4) Try.underlying88 rfl rfl Try.sizeOf86 rfl rfl rfl ?_
    exact Chain.end_ rfl
  refine DG.step 3 3 rfl (by kernel_rfl) ?_
  refine WL.call Try.call35 rfl (aLoadM_ok (z := (begun : Int)) M (by first | ((repeat (first | with_reducible exact Has.here | with_reducible refine Has.there ?_)); done) | (repeat (first | exact Has.here | refine Has.there ?_))) rfl) rfl ?_
  rintro _ _ ⟨rfl, rfl⟩
  refine DG.go (G := fun _ => false) (i := 3) (f' := 3) (done := [0, 1, 2, 4, 5, 6]) (fun h => by cases h) ?_
  refine DG.step 7 2 rfl (by kernel_rfl) ?_
  refine WL.call Try.call35 rfl (aLoadM_ok (z := (was : Int)) M (by first | ((repeat (first | with_reducible exact Has.here | with_reducible refine Has.there ?_)); done) | (repeat (first | exact Has.here | refine Has.there ?_))) rfl) rfl ?_
  rintro _ _ ⟨rfl, rfl⟩
  refine DG.go (G := fun _ => false) (i := 7) (f' := 2) (done := [0, 1, 2, 4, 5, 6, 3]) (fun h => by cases h) ?_
  apply DG.pure_ [8, 9] 0 rfl (by kernel_rfl) (by kernel_rfl)
  · intro w
    refine WL.assign rfl rfl ?_
    refine WL.assign rfl rfl ?_
    exact Chain.end_ rfl
  refine DG.end_ (by kernel_rfl) ?_
  refine WX.next ?_
  refine W.sub [(2, _), (3, _)] (.cons rfl (.cons rfl .nil)) ?_
  refine W.ret ?_
  refine WX.ret2 rfl rfl rfl ?_
  exact ⟨rfl, M⟩
/-! ### a table that is not there -/
theorem nilBegin_ok (id num : Value) (w0 : World) : Fn Try.prog 12 [.pointer none, id, num] w0 fun v w' => v = .tuple #[.int .i64 0, .slice none 0 0, .int .i64 1] ∧ w' = w0 := by
  have M := Mem.refl w0
  refine Fn.enter Try.func12 rfl Try.ntmps12 rfl ?_
  refine W.sub [(0, _), (1, _), (2, _)] (.cons rfl (.cons rfl (.cons rfl .nil))) ?_
  refine W.seq ?_
  refine W.region ?_
  refine WL.assign rfl rfl ?_
  refine WL.assign rfl rfl ?_
  refine WL.assign rfl rfl ?_
  refine WL.nil ?_
  refine WX.next ?_
  refine W.sub [(0, _), (1, _), (2, _)] (.cons rfl (.cons rfl (.cons rfl .nil))) ?_
  refine W.seq ?_
  refine W.block ?_
  refine W.seq ?_
  refine W.region ?_
  refine WL.move rfl rfl ?_
  refine WL.eqNilT Try.underlying25 rfl rfl rfl ?_
  refine WL.assign rfl rfl ?_
  refine WL.nil ?_
  refine WX.next ?_
  refine W.sub [(0, _), (1, _), (2, _), (11, _)] (.cons rfl (.cons rfl (.cons rfl (.cons rfl .nil)))) ?_
  refine W.condT rfl ?_
  refine W.seq ?_
  refine W.region ?_
  refine WL.assign rfl rfl ?_
  refine WL.assign rfl rfl ?_
  refine WL.assign rfl rfl ?_
  refine WL.nil ?_
  refine WX.next ?_
  refine W.sub [(6, _), (7, _), (8, _)] (.cons rfl (.cons rfl (.cons rfl .nil))) ?_
  refine W.ret ?_
  refine WX.blockRet ?_
  refine WX.thenRet ?_
  refine WX.ret3 rfl rfl rfl rfl ?_
  exact ⟨rfl, rfl⟩
theorem nilEnd_ok (id num r : Value) (w0 : World) : Fn Try.prog 14 [.pointer none, id, num, r] w0 fun v w' => v = .int .i64 1 ∧ w' = w0 := by
  have M := Mem.refl w0
  refine Fn.enter Try.func14 rfl Try.ntmps14 rfl ?_
  refine W.sub [(0, _), (1, _), (2, _), (3, _)] (.cons rfl (.cons rfl (.cons rfl (.cons rfl .nil)))) ?_
  refine W.seq ?_
  refine W.region ?_
  refine WL.assign rfl rfl ?_
  refine WL.nil ?_
  refine WX.next ?_
  refine W.sub [(0, _), (1, _), (2, _), (3, _)] (.cons rfl (.cons rfl (.cons rfl (.cons rfl .nil)))) ?_
  refine W.seq ?_
  refine W.block ?_
  refine W.seq ?_
  refine W.region ?_
  refine WL.move rfl rfl ?_
  refine WL.eqNilT Try.underlying25 rfl rfl rfl ?_
  refine WL.assign rfl rfl ?_
  refine WL.nil ?_
  refine WX.next ?_
  refine W.sub [(0, _), (1, _), (2, _), (3, _), (10, _)] (.cons rfl (.cons rfl (.cons rfl (.cons rfl (.cons rfl .nil))))) ?_
  refine W.condT rfl ?_
  refine W.seq ?_
  refine W.region ?_
  refine WL.assign rfl rfl ?_
  refine WL.nil ?_
  refine WX.next ?_
  refine W.sub [(8, _)] (.cons rfl .nil) ?_
  refine W.ret ?_
  refine WX.blockRet ?_
  refine WX.thenRet ?_
  refine WX.ret1 rfl rfl ?_
  exact ⟨rfl, rfl⟩
theorem nilClients_ok (w0 : World) : Fn Try.prog 15 [.pointer none] w0 fun v w' => v = .slice none 0 0 ∧ w' = w0 := by
  have M := Mem.refl w0
  refine Fn.enter Try.func15 rfl Try.ntmps15 rfl ?_
  refine W.sub [(0, _)] (.cons rfl .nil) ?_
  refine W.seq ?_
  refine W.region ?_
  refine WL.assign rfl rfl ?_
  refine WL.nil ?_
  refine WX.next ?_
  refine W.sub [(0, _)] (.cons rfl .nil) ?_
  refine W.seq ?_
  refine W.seq ?_
  refine W.region ?_
  refine WL.move rfl rfl ?_
  refine WL.eqNilT Try.underlying25 rfl rfl rfl ?_
  refine WL.nil ?_
  refine WX.next ?_
  refine W.sub [(0, _), (7, _)] (.cons rfl (.cons rfl .nil)) ?_
  refine W.condT rfl ?_
  refine W.seq ?_
  refine W.region ?_
  refine WL.assign rfl rfl ?_
  refine WL.nil ?_
  refine WX.next ?_
  refine W.sub [(2, _)] (.cons rfl .nil) ?_
  refine W.ret ?_
  refine WX.thenRet ?_
  refine WX.ret1 rfl rfl ?_
  exact ⟨rfl, rfl⟩
theorem nilCounts_ok (w0 : World) : Fn Try.prog 18 [.pointer none] w0 fun v w' => v = .tuple #[.int .i64 0, .int .i64 0] ∧ w' = w0 := by
  have M := Mem.refl w0
  refine Fn.enter Try.func18 rfl Try.ntmps18 rfl ?_
  refine W.sub [(0, _)] (.cons rfl .nil) ?_
  refine W.seq ?_
  refine W.region ?_
  refine WL.assign rfl rfl ?_
  refine WL.assign rfl rfl ?_
  refine WL.nil ?_
  refine WX.next ?_
  refine W.sub [(0, _)] (.cons rfl .nil) ?_
  refine W.seq ?_
  refine W.seq ?_
  refine W.region ?_
  refine WL.move rfl rfl ?_
  refine WL.eqNilT Try.underlying25 rfl rfl rfl ?_
  refine WL.nil ?_
  refine WX.next ?_
  refine W.sub [(0, _), (5, _)] (.cons rfl (.cons rfl .nil)) ?_
  refine W.condT rfl ?_
  refine W.seq ?_
  refine W.region ?_
  refine WL.assign rfl rfl ?_
  refine WL.assign rfl rfl ?_
  refine WL.nil ?_
  refine WX.next ?_
  refine W.sub [(2, _), (3, _)] (.cons rfl (.cons rfl .nil)) ?_
  refine W.ret ?_
  refine WX.thenRet ?_
  refine WX.ret2 rfl rfl rfl ?_
  exact ⟨rfl, rfl⟩
theorem nilSave_ok (w0 : World) : Fn Try.prog 19 [.pointer none] w0 fun v w' => v = .slice none 0 0 ∧ w' = w0 := by
  have M := Mem.refl w0
  refine Fn.enter Try.func19 rfl Try.ntmps19 rfl ?_
  refine W.sub [(0, _)] (.cons rfl .nil) ?_
  refine W.seq ?_
  refine W.region ?_
  refine WL.assign rfl rfl ?_
  refine WL.nil ?_
  refine WX.next ?_
  refine W.sub [(0, _)] (.cons rfl .nil) ?_
  refine W.seq ?_
  refine W.seq ?_
  refine W.region ?_
  refine WL.move rfl rfl ?_
  refine WL.eqNilT Try.underlying25 rfl rfl rfl ?_
  refine WL.nil ?_
  refine WX.next ?_
  refine W.sub [(0, _), (7, _)] (.cons rfl (.cons rfl .nil)) ?_
  refine W.condT rfl ?_
  refine W.seq ?_
  refine W.region ?_
  refine WL.assign rfl rfl ?_
  refine WL.nil ?_
  refine WX.next ?_
  refine W.sub [(2, _)] (.cons rfl .nil) ?_
  refine W.ret ?_
  refine WX.thenRet ?_
  refine WX.ret1 rfl rfl ?_
  exact ⟨rfl, rfl⟩
end Go.Proofs.Ytmogpoghngmnmaa
