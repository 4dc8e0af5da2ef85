/-
  Walks: the document's table: End, Save (seawallref13).
-/
import Derived.Test.YtmogpoghngmnmaaOnceRef2
namespace Go.Proofs.Ytmogpoghngmnmaa
open Go Go.RowKit Bin

def RefEndAns (t : Tb) (id num : Nat) (rep : List UInt8) (g : Nat) (w0 : World) (L : List Asr) (v : Value) (w' : World) : Prop :=
  v = .int .i64 (endE t id num rep) ∧ ∃ x' : RT, g = x'.g ∧ x'.s = endS t id num rep ∧ Mem w0 w' (x'.L ++ L)

set_option maxRecDepth 10000 in
set_option maxHeartbeats 1000000 in
theorem refEnd_ok (x : RT) (hok : x.s.ok) (id num : Nat) (hid : id < 18446744073709551616) (hnum : num < 18446744073709551616) (B : Option Addr) (cB : Nat) (rep : List UInt8) (w0 w : World) (L : List Asr) (M : Mem w0 w (x.L ++ L)) (hb : RdH w0 L B cB rep) :
    Fn Try.prog 26 [.pointer (some ⟨x.g, 0, none⟩), .int .u64 (id : Int), .int .u64 (num : Int), .slice B rep.length cB] w (RefEndAns x.s id num rep x.g w0 L) := by
  have hlen := hok.len
  have hmost := hok.most
  have M0 := M
  obtain ⟨T, hT⟩ : ∃ T, T = x.s := ⟨_, rfl⟩
  rw [← hT]
  have hTp : posN T.l id = posC x.cs id := by rw [hT, posC_key]; rfl
  have hTl : T.l.length = x.cs.length := by rw [hT]; exact List.length_map ..
  have hTe : ∀ k, k < x.cs.length → el T.l k = (el x.cs k).key := fun k hk => by rw [hT]; exact el_map _ _ _ hk
  have hTm : T.most = x.most := by rw [hT]; rfl
  have hTb : T.begun = x.begun := by rw [hT]; rfl
  have hTw : T.was = x.was := by rw [hT]; rfl
  have hTL : T.l = x.cs.map ClX.key := by rw [hT]; rfl
  have hple : posC x.cs id ≤ x.cs.length := by rw [posC_key]; simpa using pos_le (x.cs.map ClX.key) id
  rw [show x.s.l.length = x.cs.length from List.length_map ..] at hlen
  rw [show x.s.most = x.most from rfl] at hlen hmost
  have same : ∀ (e : Int), e = endE T id num rep → e ≠ 0 → ∀ w', Mem w0 w' (x.L ++ L) → RefEndAns T id num rep x.g w0 L (.int .i64 e) w' := by
    rintro e rfl he w' M'
    exact ⟨rfl, x, rfl, by unfold endS; rw [if_neg he, hT], M'⟩
  obtain ⟨g, most, A, cap, cs, begun, was⟩ := x
  dsimp only at *
  obtain ⟨p, hp⟩ : ∃ p, p = posC cs id := ⟨_, rfl⟩
  rw [← hp] at hTp hple
  refine Fn.enter Try.func26 rfl Try.ntmps26 rfl ?_
  refine W.sub [(0, _), (1, _), (2, _), (3, _)] (.cons rfl (.cons rfl (.cons rfl (.cons rfl .nil)))) ?_
  refine W.seq ?_
  refine W.region ?_
  refine WL.assign rfl rfl ?_
  refine WL.nil ?_
  refine WX.next ?_
  refine W.sub [(0, _), (1, _), (2, _), (3, _)] (.cons rfl (.cons rfl (.cons rfl (.cons rfl .nil)))) ?_
  refine W.seq ?_
  refine W.region ?_
  refine WL.move rfl rfl ?_
  refine WL.move rfl rfl ?_
  refine WL.call Try.call43 rfl (refFind_ok ⟨g, most, A, cap, cs, begun, was⟩ (by dsimp only; omega) id w0 w L M0) rfl ?_
  rintro _ w ⟨rfl, M⟩
  rw [← hp]
  dsimp only
  have M1 := M
  unfold RT.L RT.row at M
  simp only [List.cons_append, List.nil_append] at M
  (try dsimp only at M)
  refine WL.assign rfl rfl ?_
  refine WL.nil ?_
  refine WX.next ?_
  refine W.sub [(0, _), (1, _), (2, _), (3, _), (9, _)] (.cons rfl (.cons rfl (.cons rfl (.cons rfl (.cons rfl .nil))))) ?_
  refine W.seq ?_
  refine W.block ?_
  refine W.seq ?_
  refine W.region ?_
  refine WL.move rfl rfl ?_
  refine WL.len Try.underlying32 rfl rfl ?_
  refine WL.gtr rfl rfl rfl ?_
  refine WL.assign rfl rfl ?_
  refine WL.nil ?_
  refine WX.next ?_
  refine W.sub [(0, _), (1, _), (2, _), (3, _), (9, _), (13, _)] (.cons rfl (.cons rfl (.cons rfl (.cons rfl (.cons rfl (.cons rfl .nil)))))) ?_
  refine W.ite rfl (fun c0 => ?_) (fun c0 => ?_)
  · refine W.seq ?_
    refine W.region ?_
    refine WL.assign rfl rfl ?_
    refine WL.nil ?_
    refine WX.next ?_
    refine W.sub [(8, _)] (.cons rfl .nil) ?_
    refine W.ret ?_
    refine WX.blockRet ?_
    refine WX.thenRet ?_
    refine WX.ret1 rfl rfl ?_
    exact same 3 (by unfold endE; rw [if_pos (by omega)]) (by decide) _ M1
  · refine W.seq ?_
    refine W.region ?_
    refine WL.move rfl rfl ?_
    refine WL.lss rfl rfl rfl ?_
    refine WL.assign rfl rfl ?_
    refine WL.nil ?_
    refine WX.next ?_
    refine W.sub [(0, _), (1, _), (2, _), (3, _), (9, _), (17, _)] (.cons rfl (.cons rfl (.cons rfl (.cons rfl (.cons rfl (.cons rfl .nil)))))) ?_
    refine W.ite rfl (fun c1 => ?_) (fun c1 => ?_)
    · have hat : ¬ p < cs.length := atI_no (by omega)
      refine W.seq ?_
      refine W.region ?_
      refine WL.assign rfl rfl ?_
      refine WL.nil ?_
      refine WX.next ?_
      refine W.sub [(8, _)] (.cons rfl .nil) ?_
      refine W.ret ?_
      refine WX.blockRet ?_
      refine WX.thenRet ?_
      refine WX.ret1 rfl rfl ?_
      have hno : ¬ endOk T id num := fun h => hat (by have := h.1; omega)
      exact same 4 (by unfold endE; rw [if_neg (by omega), if_neg hno]) (by decide) _ M1
    · have hat : p < cs.length := atI_ge (by omega)
      have hai := atI_in hat
      refine W.seq ?_
      refine W.region ?_
      refine WL.move rfl rfl ?_
      refine WL.nilCheck rfl rfl ?_
      refine WL.fieldR (off := 1) Try.underlying65 rfl rfl Try.sizeOf41 rfl rfl rfl ?_
      refine WL.loadR Try.isAgg41 rfl M (by first | ((repeat (first | with_reducible exact Has.here | with_reducible refine Has.there ?_)); done) | (repeat (first | exact Has.here | refine Has.there ?_))) rfl rfl ?_
      refine WL.move rfl rfl ?_
      refine WL.idxA Try.underlying41 Try.sizeOf45 rfl rfl (RdL.isSome (E := clientE) (by first | with_reducible assumption | with_reducible exact RdL.mem (by with_reducible assumption) M | exact M.rdL (by first | ((repeat (first | with_reducible exact Has.here | with_reducible refine Has.there ?_)); done) | (repeat (first | exact Has.here | refine Has.there ?_))) | exact RdLH.at (by assumption) (M.sel (by first | ((repeat (first | with_reducible exact Sel.refl | with_reducible exact Sel.nil | with_reducible exact Del.here | with_reducible apply Del.there | with_reducible apply Sel.cons | with_reducible apply Sel.drop)); done) | (repeat (first | exact Sel.refl | exact Sel.nil | exact Del.here | apply Del.there | apply Sel.cons | apply Sel.drop)))) | exact RdL.nil _ _ _) (by omega)) (by omega) (by omega) hai rfl ?_
      refine WL.fieldA (off := 1) Try.underlying45 rfl rfl Try.sizeOf29 rfl rfl rfl ?_
      refine WL.loadE (E := clientE) Try.isAgg29 rfl (by first | with_reducible assumption | with_reducible exact RdL.mem (by with_reducible assumption) M | exact M.rdL (by first | ((repeat (first | with_reducible exact Has.here | with_reducible refine Has.there ?_)); done) | (repeat (first | exact Has.here | refine Has.there ?_))) | exact RdLH.at (by assumption) (M.sel (by first | ((repeat (first | with_reducible exact Sel.refl | with_reducible exact Sel.nil | with_reducible exact Del.here | with_reducible apply Del.there | with_reducible apply Sel.cons | with_reducible apply Sel.drop)); done) | (repeat (first | exact Sel.refl | exact Sel.nil | exact Del.here | apply Del.there | apply Sel.cons | apply Sel.drop)))) | exact RdL.nil _ _ _) (by omega) rfl rfl ?_
      refine WL.move rfl rfl ?_
      refine WL.neI rfl rfl rfl ?_
      refine WL.moveIf rfl rfl (fun c2 => ?_) (fun c2 => ?_)
      · refine WL.off rfl rfl rfl rfl ?_
        refine WL.off rfl rfl rfl rfl ?_
        refine WL.off rfl rfl rfl rfl ?_
        refine WL.off rfl rfl rfl rfl ?_
        refine WL.off rfl rfl rfl rfl ?_
        refine WL.off rfl rfl rfl rfl ?_
        refine WL.off rfl rfl rfl rfl ?_
        refine WL.off rfl rfl rfl rfl ?_
        refine WL.off rfl rfl rfl rfl ?_
        refine WL.pickT rfl rfl rfl ?_
        refine WL.assign rfl rfl ?_
        refine WL.nil ?_
        refine WX.next ?_
        refine W.sub [(0, _), (1, _), (2, _), (3, _), (9, _), (20, _)] (.cons rfl (.cons rfl (.cons rfl (.cons rfl (.cons rfl (.cons rfl .nil)))))) ?_
        refine W.condT rfl ?_
        refine W.seq ?_
        refine W.region ?_
        refine WL.assign rfl rfl ?_
        refine WL.nil ?_
        refine WX.next ?_
        refine W.sub [(8, _)] (.cons rfl .nil) ?_
        refine W.ret ?_
        refine WX.blockRet ?_
        refine WX.thenRet ?_
        refine WX.ret1 rfl rfl ?_
        have hno : ¬ endOk T id num := by
          unfold endOk
          rw [hTp, hTl]
          first
          | (rw [hTe p hat]; rintro ⟨_, h2, h3⟩; have h2' : (el cs p).num = num := h2; omega)
          | (rw [hTe p hat]; rintro ⟨_, h2, h3⟩; have h3' : (el cs p).busy = true := h3; rw [h3'] at c3; simp at c3)
        exact same 4 (by unfold endE; rw [if_neg (by omega), if_neg hno]) (by decide) _ M1
      · refine WL.on rfl rfl ?_
        refine WL.move rfl rfl ?_
        refine WL.on rfl rfl ?_
        refine WL.nilCheck rfl rfl ?_
        refine WL.on rfl rfl ?_
        refine WL.fieldR (off := 1) Try.underlying65 rfl rfl Try.sizeOf41 rfl rfl rfl ?_
        refine WL.on rfl rfl ?_
        refine WL.loadR Try.isAgg41 rfl M (by first | ((repeat (first | with_reducible exact Has.here | with_reducible refine Has.there ?_)); done) | (repeat (first | exact Has.here | refine Has.there ?_))) rfl rfl ?_
        refine WL.on rfl rfl ?_
        refine WL.move rfl rfl ?_
        refine WL.on rfl rfl ?_
        refine WL.idxA Try.underlying41 Try.sizeOf45 rfl rfl (RdL.isSome (E := clientE) (by first | with_reducible assumption | with_reducible exact RdL.mem (by with_reducible assumption) M | exact M.rdL (by first | ((repeat (first | with_reducible exact Has.here | with_reducible refine Has.there ?_)); done) | (repeat (first | exact Has.here | refine Has.there ?_))) | exact RdLH.at (by assumption) (M.sel (by first | ((repeat (first | with_reducible exact Sel.refl | with_reducible exact Sel.nil | with_reducible exact Del.here | with_reducible apply Del.there | with_reducible apply Sel.cons | with_reducible apply Sel.drop)); done) | (repeat (first | exact Sel.refl | exact Sel.nil | exact Del.here | apply Del.there | apply Sel.cons | apply Sel.drop)))) | exact RdL.nil _ _ _) (by omega)) (by omega) (by omega) hai rfl ?_
        refine WL.on rfl rfl ?_
        refine WL.fieldA (off := 2) Try.underlying45 rfl rfl Try.sizeOf4 rfl rfl rfl ?_
        refine WL.on rfl rfl ?_
        refine WL.loadE (E := clientE) Try.isAgg4 rfl (by first | with_reducible assumption | with_reducible exact RdL.mem (by with_reducible assumption) M | exact M.rdL (by first | ((repeat (first | with_reducible exact Has.here | with_reducible refine Has.there ?_)); done) | (repeat (first | exact Has.here | refine Has.there ?_))) | exact RdLH.at (by assumption) (M.sel (by first | ((repeat (first | with_reducible exact Sel.refl | with_reducible exact Sel.nil | with_reducible exact Del.here | with_reducible apply Del.there | with_reducible apply Sel.cons | with_reducible apply Sel.drop)); done) | (repeat (first | exact Sel.refl | exact Sel.nil | exact Del.here | apply Del.there | apply Sel.cons | apply Sel.drop)))) | exact RdL.nil _ _ _) (by omega) rfl rfl ?_
        refine WL.on rfl rfl ?_
        refine WL.not rfl rfl ?_
        refine WL.pickF rfl rfl rfl ?_
        refine WL.assign rfl rfl ?_
        refine WL.nil ?_
        refine WX.next ?_
        refine W.sub [(0, _), (1, _), (2, _), (3, _), (9, _), (20, _)] (.cons rfl (.cons rfl (.cons rfl (.cons rfl (.cons rfl (.cons rfl .nil)))))) ?_
        refine W.cond rfl (fun c3 => ?_) (fun c3 => ?_)
        · (try simp only [Bool.not_eq_true'] at c3); (try simp only [Bool.not_eq_false'] at c3); (try simp only [decide_eq_true_eq] at c3); (try simp only [decide_eq_false_iff_not] at c3)
          refine W.seq ?_
          refine W.region ?_
          refine WL.assign rfl rfl ?_
          refine WL.nil ?_
          refine WX.next ?_
          refine W.sub [(8, _)] (.cons rfl .nil) ?_
          refine W.ret ?_
          refine WX.blockRet ?_
          refine WX.thenRet ?_
          refine WX.ret1 rfl rfl ?_
          have hno : ¬ endOk T id num := by
            unfold endOk
            rw [hTp, hTl]
            first
            | (rw [hTe p hat]; rintro ⟨_, h2, h3⟩; have h2' : (el cs p).num = num := h2; omega)
            | (rw [hTe p hat]; rintro ⟨_, h2, h3⟩; have h3' : (el cs p).busy = true := h3; rw [h3'] at c3; simp at c3)
          exact same 4 (by unfold endE; rw [if_neg (by omega), if_neg hno]) (by decide) _ M1
        · (try simp only [Bool.not_eq_true'] at c3); (try simp only [Bool.not_eq_false'] at c3); (try simp only [decide_eq_true_eq] at c3); (try simp only [decide_eq_false_iff_not] at c3)
          refine W.skip ?_
          refine WX.blockNormal ?_
          refine WX.next ?_
          refine W.seq ?_
          refine W.region ?_
          refine WL.move rfl rfl ?_
          refine WL.move rfl rfl ?_
          refine WL.move rfl rfl ?_
          refine WL.move rfl rfl ?_
          refine WL.move rfl rfl ?_
          refine WL.call Try.call45 rfl (Copy_ok (by first | first | with_reducible assumption | with_reducible exact RdB.mem (by with_reducible assumption) M | exact M.rdB (by first | ((repeat (first | with_reducible exact Has.here | with_reducible refine Has.there ?_)); done) | (repeat (first | exact Has.here | refine Has.there ?_))) | exact RdH.at (by assumption) (M.sel (by first | ((repeat (first | with_reducible exact Sel.refl | with_reducible exact Sel.nil | with_reducible exact Del.here | with_reducible apply Del.there | with_reducible apply Sel.cons | with_reducible apply Sel.drop)); done) | (repeat (first | exact Sel.refl | exact Sel.nil | exact Del.here | apply Del.there | apply Sel.cons | apply Sel.drop)))) | exact M.rdLit' (by first | ((repeat (first | with_reducible exact Has.here | with_reducible refine Has.there ?_)); done) | (repeat (first | exact Has.here | refine Has.there ?_))) | exact M.rdLent (by first | ((repeat (first | with_reducible exact Has.here | with_reducible refine Has.there ?_)); done) | (repeat (first | exact Has.here | refine Has.there ?_))) | exact RdB.nil _ _ | exact RdB.sub (by first | with_reducible assumption | with_reducible exact RdB.mem (by with_reducible assumption) M | exact M.rdB (by first | ((repeat (first | with_reducible exact Has.here | with_reducible refine Has.there ?_)); done) | (repeat (first | exact Has.here | refine Has.there ?_))) | exact RdH.at (by assumption) (M.sel (by first | ((repeat (first | with_reducible exact Sel.refl | with_reducible exact Sel.nil | with_reducible exact Del.here | with_reducible apply Del.there | with_reducible apply Sel.cons | with_reducible apply Sel.drop)); done) | (repeat (first | exact Sel.refl | exact Sel.nil | exact Del.here | apply Del.there | apply Sel.cons | apply Sel.drop)))) | exact M.rdLit' (by first | ((repeat (first | with_reducible exact Has.here | with_reducible refine Has.there ?_)); done) | (repeat (first | exact Has.here | refine Has.there ?_))) | exact M.rdLent (by first | ((repeat (first | with_reducible exact Has.here | with_reducible refine Has.there ?_)); done) | (repeat (first | exact Has.here | refine Has.there ?_))) | exact RdB.nil _ _) (by omega) (by omega) | exact RdB.pre' (by first | with_reducible assumption | with_reducible exact RdB.mem (by with_reducible assumption) M | exact M.rdB (by first | ((repeat (first | with_reducible exact Has.here | with_reducible refine Has.there ?_)); done) | (repeat (first | exact Has.here | refine Has.there ?_))) | exact RdH.at (by assumption) (M.sel (by first | ((repeat (first | with_reducible exact Sel.refl | with_reducible exact Sel.nil | with_reducible exact Del.here | with_reducible apply Del.there | with_reducible apply Sel.cons | with_reducible apply Sel.drop)); done) | (repeat (first | exact Sel.refl | exact Sel.nil | exact Del.here | apply Del.there | apply Sel.cons | apply Sel.drop)))) | exact M.rdLit' (by first | ((repeat (first | with_reducible exact Has.here | with_reducible refine Has.there ?_)); done) | (repeat (first | exact Has.here | refine Has.there ?_))) | exact M.rdLent (by first | ((repeat (first | with_reducible exact Has.here | with_reducible refine Has.there ?_)); done) | (repeat (first | exact Has.here | refine Has.there ?_))) | exact RdB.nil _ _) (by omega) | exact RdB.suf (by first | with_reducible assumption | with_reducible exact RdB.mem (by with_reducible assumption) M | exact M.rdB (by first | ((repeat (first | with_reducible exact Has.here | with_reducible refine Has.there ?_)); done) | (repeat (first | exact Has.here | refine Has.there ?_))) | exact RdH.at (by assumption) (M.sel (by first | ((repeat (first | with_reducible exact Sel.refl | with_reducible exact Sel.nil | with_reducible exact Del.here | with_reducible apply Del.there | with_reducible apply Sel.cons | with_reducible apply Sel.drop)); done) | (repeat (first | exact Sel.refl | exact Sel.nil | exact Del.here | apply Del.there | apply Sel.cons | apply Sel.drop)))) | exact M.rdLit' (by first | ((repeat (first | with_reducible exact Has.here | with_reducible refine Has.there ?_)); done) | (repeat (first | exact Has.here | refine Has.there ?_))) | exact M.rdLent (by first | ((repeat (first | with_reducible exact Has.here | with_reducible refine Has.there ?_)); done) | (repeat (first | exact Has.here | refine Has.there ?_))) | exact RdB.nil _ _) (by omega)) (by omega)) rfl ?_
          rintro _ w ⟨A8_5, cap8_5, rfl, m⟩
          replace M := M.call1 m; clear m
          refine WL.buildP (places := #[(0, 1), (1, 1), (2, 1), (3, 1)]) Try.underlying45 Try.zeroValue45 (fun _ => by simp [Try.sizeOf29, Try.sizeOf29, Try.sizeOf4, Try.sizeOf32]) rfl (by repeat (first | exact Puts.nil | exact SetAt.zero | apply SetAt.succ | apply Puts.cons rfl rfl)) rfl ?_
          refine WL.call Try.call44 rfl (last_ok g (.int .i64 (most : Int)) A cap cs _ _ p hple (by omega) ⟨id, num, false, A8_5, cap8_5, rep⟩ w0 w _ (M.sel (K := Asr.row g 65 [.int .i64 (most : Int), .slice A cs.length cap, .int .i64 (begun : Int), .int .i64 (was : Int)] :: Asr.lst clientE A cap cs :: Asr.star (cs.map ClX.O) :: Asr.own 5 1 A8_5 rep.length cap8_5 (bs rep) :: L) (by first | ((repeat (first | with_reducible exact Sel.refl | with_reducible exact Sel.nil | with_reducible exact Del.here | with_reducible apply Del.there | with_reducible apply Sel.cons | with_reducible apply Sel.drop)); done) | (repeat (first | exact Sel.refl | exact Sel.nil | exact Del.here | apply Del.there | apply Sel.cons | apply Sel.drop))))) rfl ?_
          rintro _ w ⟨rfl, A2, cap2, M⟩
          refine WL.nil ?_
          refine WX.next ?_
          refine W.sub [] .nil ?_
          refine W.seq ?_
          refine W.region ?_
          refine WL.assign rfl rfl ?_
          refine WL.nil ?_
          refine WX.next ?_
          refine W.sub [(8, _)] (.cons rfl .nil) ?_
          refine W.ret ?_
          refine WX.ret1 rfl rfl ?_
          have hyes : endOk T id num := by
            unfold endOk
            rw [hTp, hTl, hTe p hat]
            exact ⟨hat, (show (el cs p).num = num by omega), (show (el cs p).busy = true by simpa using c3)⟩
          have he : endE T id num rep = 0 := by unfold endE; rw [if_neg (by omega), if_pos hyes]
          obtain ⟨c9, hc9⟩ : ∃ c : ClX, c = ⟨id, num, false, A8_5, cap8_5, rep⟩ := ⟨_, rfl⟩
          rw [← hc9] at M
          have e2 : endS T id num rep = ⟨most, (cs.eraseIdx p ++ [c9]).map ClX.key, begun, was⟩ := by
            unfold endS
            rw [if_pos he, hTm, hTb, hTw, hTp, hTL, List.map_append, map_eraseIdx', hc9]
            rfl
          have M5 := Mem.starErase (M.sel (K := Asr.star (cs.map ClX.O) :: Asr.own 5 1 A8_5 rep.length cap8_5 (bs rep) :: Asr.row g 65 [.int .i64 (most : Int), .slice A2 (cs.eraseIdx p ++ [c9]).length cap2, .int .i64 (begun : Int), .int .i64 (was : Int)] :: Asr.lst clientE A2 cap2 (cs.eraseIdx p ++ [c9]) :: L) (by first | ((repeat (first | with_reducible exact Sel.refl | with_reducible exact Sel.nil | with_reducible exact Del.here | with_reducible apply Del.there | with_reducible apply Sel.cons | with_reducible apply Sel.drop)); done) | (repeat (first | exact Sel.refl | exact Sel.nil | exact Del.here | apply Del.there | apply Sel.cons | apply Sel.drop)))) p
          have M6 := Mem.starSnoc M5.f1
          rw [show (cs.eraseIdx p).map ClX.O ++ [Asr.own 5 1 A8_5 rep.length cap8_5 (bs rep)] = (cs.eraseIdx p ++ [c9]).map ClX.O by rw [List.map_append, hc9]; rfl] at M6
          refine ⟨by rw [he], ⟨g, most, A2, cap2, cs.eraseIdx p ++ [c9], begun, was⟩, rfl, e2.symm, ?_⟩
          unfold RT.L RT.row
          exact M6.sel (by first | ((repeat (first | with_reducible exact Sel.refl | with_reducible exact Sel.nil | with_reducible exact Del.here | with_reducible apply Del.there | with_reducible apply Sel.cons | with_reducible apply Sel.drop)); done) | (repeat (first | exact Sel.refl | exact Sel.nil | exact Del.here | apply Del.there | apply Sel.cons | apply Sel.drop)))

set_option maxRecDepth 10000 in
set_option maxHeartbeats 1000000 in
theorem refSave_ok (x : RT) (hok : x.s.ok) (w0 w : World) (L : List Asr) (M : Mem w0 w (x.L ++ L)) :
    Fn Try.prog 28 [.pointer (some ⟨x.g, 0, none⟩)] w fun v w' => ∃ (A' : Option Addr) (cap' : Nat), v = .slice A' (saveB x.s).length cap' ∧
      Mem w0 w' (Asr.own 5 1 A' (saveB x.s).length cap' (bs (saveB x.s)) :: (x.L ++ L)) := by
  have hlen := hok.len
  have hmost := hok.most
  have heach : ∀ k, k < x.cs.length → (el x.cs k).key.ok := fun k hk => hok.each _ (List.mem_map.2 ⟨_, el_mem hk, rfl⟩)
  rw [show x.s.l.length = x.cs.length from List.length_map ..] at hlen
  rw [show x.s.most = x.most from rfl] at hlen hmost
  have hB : saveB x.s = put x.most ++ (put x.cs.length ++ saveL (x.cs.map ClX.key)) := by unfold saveB RT.s; rw [List.length_map]
  have hp1 := put_len10 (n := x.most) (by omega)
  have hp2 := put_len10 (n := x.cs.length) (by omega)
  rw [hB]
  obtain ⟨g, most, A, cap, cs, begun, was⟩ := x
  unfold RT.L RT.row at M ⊢
  simp only [List.cons_append, List.nil_append] at M ⊢
  dsimp only at *
  refine Fn.enter Try.func28 rfl Try.ntmps28 rfl ?_
  refine W.sub [(0, _)] (.cons rfl .nil) ?_
  refine W.seq ?_
  refine W.region ?_
  refine WL.assign rfl rfl ?_
  refine WL.nil ?_
  refine WX.next ?_
  refine W.sub [(0, _)] (.cons rfl .nil) ?_
  refine W.seq ?_
  refine W.region ?_
  refine WL.move rfl rfl ?_
  refine WL.nilCheck rfl rfl ?_
  refine WL.fieldR (off := 0) Try.underlying65 rfl rfl Try.sizeOf3 rfl rfl rfl ?_
  refine WL.loadR Try.isAgg3 rfl M (by first | ((repeat (first | with_reducible exact Has.here | with_reducible refine Has.there ?_)); done) | (repeat (first | exact Has.here | refine Has.there ?_))) rfl rfl ?_
  refine WL.conv Try.underlying3 Try.underlying29 rfl (by first | exact wU64 (by omega) | exact mU64 _ | rfl) rfl ?_
  refine WL.call Try.call46 rfl (refPutUint_ok _ (by omega) _) rfl ?_
  rintro _ w ⟨A1_5, cap1_5, rfl, m⟩
  replace M := M.call1 m; clear m
  refine WL.assign rfl rfl ?_
  refine WL.nil ?_
  refine WX.next ?_
  refine W.sub [(0, _), (3, _)] (.cons rfl (.cons rfl .nil)) ?_
  refine W.seq ?_
  refine W.region ?_
  refine WL.move rfl rfl ?_
  refine WL.nilCheck rfl rfl ?_
  refine WL.fieldR (off := 1) Try.underlying65 rfl rfl Try.sizeOf41 rfl rfl rfl ?_
  refine WL.loadR Try.isAgg41 rfl M (by first | ((repeat (first | with_reducible exact Has.here | with_reducible refine Has.there ?_)); done) | (repeat (first | exact Has.here | refine Has.there ?_))) rfl rfl ?_
  refine WL.len Try.underlying41 rfl rfl ?_
  refine WL.conv Try.underlying3 Try.underlying29 rfl (by first | exact wU64 (by omega) | exact mU64 _ | rfl) rfl ?_
  refine WL.call Try.call46 rfl (refPutUint_ok _ (by omega) _) rfl ?_
  rintro _ w ⟨A2_6, cap2_6, rfl, m⟩
  replace M := M.call1 m; clear m
  refine WL.assign rfl rfl ?_
  refine WL.nil ?_
  refine WX.next ?_
  refine W.sub [(0, _), (3, _), (4, _)] (.cons rfl (.cons rfl (.cons rfl .nil))) ?_
  refine W.seq ?_
  refine W.region ?_
  refine WL.move rfl rfl ?_
  refine WL.move rfl rfl ?_
  refine WL.appendBH Try.elem5 rfl rfl M (by first | ((repeat (first | with_reducible exact Del.here | with_reducible apply Del.there)); done) | (repeat (first | exact Del.here | apply Del.there))) (by first | first | with_reducible assumption | with_reducible exact RdB.mem (by with_reducible assumption) M | exact M.rdB (by first | ((repeat (first | with_reducible exact Has.here | with_reducible refine Has.there ?_)); done) | (repeat (first | exact Has.here | refine Has.there ?_))) | exact RdH.at (by assumption) (M.sel (by first | ((repeat (first | with_reducible exact Sel.refl | with_reducible exact Sel.nil | with_reducible exact Del.here | with_reducible apply Del.there | with_reducible apply Sel.cons | with_reducible apply Sel.drop)); done) | (repeat (first | exact Sel.refl | exact Sel.nil | exact Del.here | apply Del.there | apply Sel.cons | apply Sel.drop)))) | exact M.rdLit' (by first | ((repeat (first | with_reducible exact Has.here | with_reducible refine Has.there ?_)); done) | (repeat (first | exact Has.here | refine Has.there ?_))) | exact M.rdLent (by first | ((repeat (first | with_reducible exact Has.here | with_reducible refine Has.there ?_)); done) | (repeat (first | exact Has.here | refine Has.there ?_))) | exact RdB.nil _ _ | exact RdB.sub (by first | with_reducible assumption | with_reducible exact RdB.mem (by with_reducible assumption) M | exact M.rdB (by first | ((repeat (first | with_reducible exact Has.here | with_reducible refine Has.there ?_)); done) | (repeat (first | exact Has.here | refine Has.there ?_))) | exact RdH.at (by assumption) (M.sel (by first | ((repeat (first | with_reducible exact Sel.refl | with_reducible exact Sel.nil | with_reducible exact Del.here | with_reducible apply Del.there | with_reducible apply Sel.cons | with_reducible apply Sel.drop)); done) | (repeat (first | exact Sel.refl | exact Sel.nil | exact Del.here | apply Del.there | apply Sel.cons | apply Sel.drop)))) | exact M.rdLit' (by first | ((repeat (first | with_reducible exact Has.here | with_reducible refine Has.there ?_)); done) | (repeat (first | exact Has.here | refine Has.there ?_))) | exact M.rdLent (by first | ((repeat (first | with_reducible exact Has.here | with_reducible refine Has.there ?_)); done) | (repeat (first | exact Has.here | refine Has.there ?_))) | exact RdB.nil _ _) (by omega) (by omega) | exact RdB.pre' (by first | with_reducible assumption | with_reducible exact RdB.mem (by with_reducible assumption) M | exact M.rdB (by first | ((repeat (first | with_reducible exact Has.here | with_reducible refine Has.there ?_)); done) | (repeat (first | exact Has.here | refine Has.there ?_))) | exact RdH.at (by assumption) (M.sel (by first | ((repeat (first | with_reducible exact Sel.refl | with_reducible exact Sel.nil | with_reducible exact Del.here | with_reducible apply Del.there | with_reducible apply Sel.cons | with_reducible apply Sel.drop)); done) | (repeat (first | exact Sel.refl | exact Sel.nil | exact Del.here | apply Del.there | apply Sel.cons | apply Sel.drop)))) | exact M.rdLit' (by first | ((repeat (first | with_reducible exact Has.here | with_reducible refine Has.there ?_)); done) | (repeat (first | exact Has.here | refine Has.there ?_))) | exact M.rdLent (by first | ((repeat (first | with_reducible exact Has.here | with_reducible refine Has.there ?_)); done) | (repeat (first | exact Has.here | refine Has.there ?_))) | exact RdB.nil _ _) (by omega) | exact RdB.suf (by first | with_reducible assumption | with_reducible exact RdB.mem (by with_reducible assumption) M | exact M.rdB (by first | ((repeat (first | with_reducible exact Has.here | with_reducible refine Has.there ?_)); done) | (repeat (first | exact Has.here | refine Has.there ?_))) | exact RdH.at (by assumption) (M.sel (by first | ((repeat (first | with_reducible exact Sel.refl | with_reducible exact Sel.nil | with_reducible exact Del.here | with_reducible apply Del.there | with_reducible apply Sel.cons | with_reducible apply Sel.drop)); done) | (repeat (first | exact Sel.refl | exact Sel.nil | exact Del.here | apply Del.there | apply Sel.cons | apply Sel.drop)))) | exact M.rdLit' (by first | ((repeat (first | with_reducible exact Has.here | with_reducible refine Has.there ?_)); done) | (repeat (first | exact Has.here | refine Has.there ?_))) | exact M.rdLent (by first | ((repeat (first | with_reducible exact Has.here | with_reducible refine Has.there ?_)); done) | (repeat (first | exact Has.here | refine Has.there ?_))) | exact RdB.nil _ _) (by omega)) rfl rfl (by first | omega | (simp; done) | (simp; omega)) rfl ?_
  intro A3_2 cap3_2 w M
  refine WL.assign rfl rfl ?_
  refine WL.nil ?_
  refine WX.next ?_
  refine W.sub [(0, _), (3, _)] (.cons rfl (.cons rfl .nil)) ?_
  refine W.seq ?_
  refine W.seq ?_
  refine W.region ?_
  refine WL.assign rfl rfl ?_
  refine WL.nil ?_
  refine WX.next ?_
  refine W.sub [(0, _), (3, _), (5, _)] (.cons rfl (.cons rfl (.cons rfl .nil))) ?_
  refine W.block ?_
  refine W.loop (ι := Nat × (Option Addr × Nat × List UInt8)) (fun z => [(0, .pointer (some ⟨g, 0, none⟩)), (3, .slice z.2.1 z.2.2.2.length z.2.2.1), (5, .int .i64 (z.1 : Int))]) (fun zz w => Mem w0 w ((fun z => Asr.own 5 1 z.2.1 z.2.2.2.length z.2.2.1 (bs z.2.2.2) :: Asr.row g 65 [.int .i64 (most : Int), .slice A cs.length cap, .int .i64 (begun : Int), .int .i64 (was : Int)] :: Asr.lst clientE A cap cs :: Asr.star (cs.map ClX.O) :: L) zz) ∧ (fun z => z.1 ≤ cs.length ∧ z.2.2.2 = put most ++ (put cs.length ++ saveL ((cs.take z.1).map ClX.key)) ∧ z.2.2.2.length ≤ 20 + 240 * z.1) zz) (fun z => cs.length - z.1) ((0, (A3_2, cap3_2, put most ++ put cs.length))) (by (repeat' (first | exact envSub.nil | refine envSub.cons ?_ ?_)) <;> first | rfl | (refine congrArg some ?_; refine congrArg (Value.int _) ?_; first | omega | (dsimp only; omega)) | (simp; done) | (refine congrArg some ?_; dsimp only; congr 1; omega) | (simp; omega)) ⟨M.sel (by first | ((repeat (first | with_reducible exact Sel.refl | with_reducible exact Sel.nil | with_reducible exact Del.here | with_reducible apply Del.there | with_reducible apply Sel.cons | with_reducible apply Sel.drop)); done) | (repeat (first | exact Sel.refl | exact Sel.nil | exact Del.here | apply Del.there | apply Sel.cons | apply Sel.drop))), ⟨by simp, by simp [saveL], by simp; omega⟩⟩ ?_
  clear M; rintro (⟨i, B, c, o⟩) w ⟨M, ⟨hi, ho, hol⟩⟩; dsimp only at M hi ho hol ⊢
  refine W.sub [(0, _), (3, _), (5, _)] (.cons rfl (.cons rfl (.cons rfl .nil))) ?_
  refine W.seq ?_
  refine W.seq ?_
  refine W.region ?_
  refine WL.move rfl rfl ?_
  refine WL.move rfl rfl ?_
  refine WL.nilCheck rfl rfl ?_
  refine WL.fieldR (off := 1) Try.underlying65 rfl rfl Try.sizeOf41 rfl rfl rfl ?_
  refine WL.loadR Try.isAgg41 rfl M (by first | ((repeat (first | with_reducible exact Has.here | with_reducible refine Has.there ?_)); done) | (repeat (first | exact Has.here | refine Has.there ?_))) rfl rfl ?_
  refine WL.len Try.underlying41 rfl rfl ?_
  refine WL.lss rfl rfl rfl ?_
  refine WL.nil ?_
  refine WX.next ?_
  refine W.sub [(0, _), (3, _), (5, _), (31, _)] (.cons rfl (.cons rfl (.cons rfl (.cons rfl .nil)))) ?_
  refine W.ite rfl (fun c0 => ?_) (fun c0 => ?_)
  · have hk := heach i (by omega)
    have hk1 : (el cs i).id < 18446744073709551616 := hk.id
    have hk2 : (el cs i).num < 18446744073709551616 := hk.num.2
    have hk3 : (el cs i).rep.length ≤ 200 := hk.rep
    have hq1 := put_len10 hk1
    have hq2 := put_len10 hk2
    have hq3 := put_len10 (n := (el cs i).rep.length) (by omega)
    have hsn : saveL ((cs.take (i + 1)).map ClX.key) = saveL ((cs.take i).map ClX.key) ++ saveC (el cs i).key := by
      rw [List.take_add_one, el_get (by omega), List.map_append]
      exact saveL_snoc _ _
    have hsl := saveC_len hk
    refine W.skip ?_
    refine WX.next ?_
    refine W.joint (fun (z : Option Addr × Nat) => [(0, .pointer (some ⟨g, 0, none⟩)), (3, .slice z.1 (o ++ saveC (el cs i).key).length z.2), (5, .int .i64 (i : Int))]) (fun j w => Mem w0 w ((fun z => Asr.own 5 1 z.1 (o ++ saveC (el cs i).key).length z.2 (bs (o ++ saveC (el cs i).key)) :: Asr.row g 65 [.int .i64 (most : Int), .slice A cs.length cap, .int .i64 (begun : Int), .int .i64 (was : Int)] :: Asr.lst clientE A cap cs :: Asr.star (cs.map ClX.O) :: L) j) ∧ (fun _ => True) j) ?_ ?_
    · refine W.block ?_
      refine W.seq ?_
      refine W.region ?_
      refine WL.move rfl rfl ?_
      refine WL.nilCheck rfl rfl ?_
      refine WL.fieldR (off := 1) Try.underlying65 rfl rfl Try.sizeOf41 rfl rfl rfl ?_
      refine WL.loadR Try.isAgg41 rfl M (by first | ((repeat (first | with_reducible exact Has.here | with_reducible refine Has.there ?_)); done) | (repeat (first | exact Has.here | refine Has.there ?_))) rfl rfl ?_
      refine WL.move rfl rfl ?_
      refine WL.idxA Try.underlying41 Try.sizeOf45 rfl rfl (RdL.isSome (E := clientE) (by first | with_reducible assumption | with_reducible exact RdL.mem (by with_reducible assumption) M | exact M.rdL (by first | ((repeat (first | with_reducible exact Has.here | with_reducible refine Has.there ?_)); done) | (repeat (first | exact Has.here | refine Has.there ?_))) | exact RdLH.at (by assumption) (M.sel (by first | ((repeat (first | with_reducible exact Sel.refl | with_reducible exact Sel.nil | with_reducible exact Del.here | with_reducible apply Del.there | with_reducible apply Sel.cons | with_reducible apply Sel.drop)); done) | (repeat (first | exact Sel.refl | exact Sel.nil | exact Del.here | apply Del.there | apply Sel.cons | apply Sel.drop)))) | exact RdL.nil _ _ _) (by omega)) (by omega) (by omega) (by first | exact rfl | exact (Int.toNat_of_nonneg (by omega)).symm) rfl ?_
      refine WL.fieldA (off := 0) Try.underlying45 rfl rfl Try.sizeOf29 rfl rfl rfl ?_
      refine WL.loadE (E := clientE) Try.isAgg29 rfl (by first | with_reducible assumption | with_reducible exact RdL.mem (by with_reducible assumption) M | exact M.rdL (by first | ((repeat (first | with_reducible exact Has.here | with_reducible refine Has.there ?_)); done) | (repeat (first | exact Has.here | refine Has.there ?_))) | exact RdLH.at (by assumption) (M.sel (by first | ((repeat (first | with_reducible exact Sel.refl | with_reducible exact Sel.nil | with_reducible exact Del.here | with_reducible apply Del.there | with_reducible apply Sel.cons | with_reducible apply Sel.drop)); done) | (repeat (first | exact Sel.refl | exact Sel.nil | exact Del.here | apply Del.there | apply Sel.cons | apply Sel.drop)))) | exact RdL.nil _ _ _) (by omega) rfl rfl ?_
      refine WL.call Try.call46 rfl (refPutUint_ok _ (by omega) _) rfl ?_
      rintro _ w ⟨A7_8, cap7_8, rfl, m⟩
      replace M := M.call1 m; clear m
      refine WL.assign rfl rfl ?_
      refine WL.nil ?_
      refine WX.next ?_
      refine W.sub [(0, _), (3, _), (5, _), (6, _)] (.cons rfl (.cons rfl (.cons rfl (.cons rfl .nil)))) ?_
      refine W.seq ?_
      refine W.region ?_
      refine WL.move rfl rfl ?_
      refine WL.nilCheck rfl rfl ?_
      refine WL.fieldR (off := 1) Try.underlying65 rfl rfl Try.sizeOf41 rfl rfl rfl ?_
      refine WL.loadR Try.isAgg41 rfl M (by first | ((repeat (first | with_reducible exact Has.here | with_reducible refine Has.there ?_)); done) | (repeat (first | exact Has.here | refine Has.there ?_))) rfl rfl ?_
      refine WL.move rfl rfl ?_
      refine WL.idxA Try.underlying41 Try.sizeOf45 rfl rfl (RdL.isSome (E := clientE) (by first | with_reducible assumption | with_reducible exact RdL.mem (by with_reducible assumption) M | exact M.rdL (by first | ((repeat (first | with_reducible exact Has.here | with_reducible refine Has.there ?_)); done) | (repeat (first | exact Has.here | refine Has.there ?_))) | exact RdLH.at (by assumption) (M.sel (by first | ((repeat (first | with_reducible exact Sel.refl | with_reducible exact Sel.nil | with_reducible exact Del.here | with_reducible apply Del.there | with_reducible apply Sel.cons | with_reducible apply Sel.drop)); done) | (repeat (first | exact Sel.refl | exact Sel.nil | exact Del.here | apply Del.there | apply Sel.cons | apply Sel.drop)))) | exact RdL.nil _ _ _) (by omega)) (by omega) (by omega) (by first | exact rfl | exact (Int.toNat_of_nonneg (by omega)).symm) rfl ?_
      refine WL.fieldA (off := 1) Try.underlying45 rfl rfl Try.sizeOf29 rfl rfl rfl ?_
      refine WL.loadE (E := clientE) Try.isAgg29 rfl (by first | with_reducible assumption | with_reducible exact RdL.mem (by with_reducible assumption) M | exact M.rdL (by first | ((repeat (first | with_reducible exact Has.here | with_reducible refine Has.there ?_)); done) | (repeat (first | exact Has.here | refine Has.there ?_))) | exact RdLH.at (by assumption) (M.sel (by first | ((repeat (first | with_reducible exact Sel.refl | with_reducible exact Sel.nil | with_reducible exact Del.here | with_reducible apply Del.there | with_reducible apply Sel.cons | with_reducible apply Sel.drop)); done) | (repeat (first | exact Sel.refl | exact Sel.nil | exact Del.here | apply Del.there | apply Sel.cons | apply Sel.drop)))) | exact RdL.nil _ _ _) (by omega) rfl rfl ?_
      refine WL.call Try.call46 rfl (refPutUint_ok _ (by omega) _) rfl ?_
      rintro _ w ⟨A8_8, cap8_8, rfl, m⟩
      replace M := M.call1 m; clear m
      refine WL.assign rfl rfl ?_
      refine WL.nil ?_
      refine WX.next ?_
      refine W.sub [(0, _), (3, _), (5, _), (6, _), (7, _)] (.cons rfl (.cons rfl (.cons rfl (.cons rfl (.cons rfl .nil))))) ?_
      refine W.seq ?_
      refine W.region ?_
      refine WL.move rfl rfl ?_
      refine WL.nilCheck rfl rfl ?_
      refine WL.fieldR (off := 1) Try.underlying65 rfl rfl Try.sizeOf41 rfl rfl rfl ?_
      refine WL.loadR Try.isAgg41 rfl M (by first | ((repeat (first | with_reducible exact Has.here | with_reducible refine Has.there ?_)); done) | (repeat (first | exact Has.here | refine Has.there ?_))) rfl rfl ?_
      refine WL.move rfl rfl ?_
      refine WL.idxA Try.underlying41 Try.sizeOf45 rfl rfl (RdL.isSome (E := clientE) (by first | with_reducible assumption | with_reducible exact RdL.mem (by with_reducible assumption) M | exact M.rdL (by first | ((repeat (first | with_reducible exact Has.here | with_reducible refine Has.there ?_)); done) | (repeat (first | exact Has.here | refine Has.there ?_))) | exact RdLH.at (by assumption) (M.sel (by first | ((repeat (first | with_reducible exact Sel.refl | with_reducible exact Sel.nil | with_reducible exact Del.here | with_reducible apply Del.there | with_reducible apply Sel.cons | with_reducible apply Sel.drop)); done) | (repeat (first | exact Sel.refl | exact Sel.nil | exact Del.here | apply Del.there | apply Sel.cons | apply Sel.drop)))) | exact RdL.nil _ _ _) (by omega)) (by omega) (by omega) (by first | exact rfl | exact (Int.toNat_of_nonneg (by omega)).symm) rfl ?_
      refine WL.fieldA (off := 3) Try.underlying45 rfl rfl Try.sizeOf32 rfl rfl rfl ?_
      refine WL.loadE (E := clientE) Try.isAgg32 rfl (by first | with_reducible assumption | with_reducible exact RdL.mem (by with_reducible assumption) M | exact M.rdL (by first | ((repeat (first | with_reducible exact Has.here | with_reducible refine Has.there ?_)); done) | (repeat (first | exact Has.here | refine Has.there ?_))) | exact RdLH.at (by assumption) (M.sel (by first | ((repeat (first | with_reducible exact Sel.refl | with_reducible exact Sel.nil | with_reducible exact Del.here | with_reducible apply Del.there | with_reducible apply Sel.cons | with_reducible apply Sel.drop)); done) | (repeat (first | exact Sel.refl | exact Sel.nil | exact Del.here | apply Del.there | apply Sel.cons | apply Sel.drop)))) | exact RdL.nil _ _ _) (by omega) rfl rfl ?_
      refine WL.call Try.call47 rfl (refPutBytes_ok (el cs i).rep _ _ _ (show RdB w (el cs i).A (el cs i).cap (el cs i).rep from ownRd (M.starHas (f := ClX.O) (l := cs) (by first | ((repeat (first | with_reducible exact Has.here | with_reducible refine Has.there ?_)); done) | (repeat (first | exact Has.here | refine Has.there ?_))) (el_mem (by omega)))) (by omega)) rfl ?_
      rintro _ w ⟨A9_8, cap9_8, rfl, m⟩
      replace M := M.call1 m; clear m
      refine WL.assign rfl rfl ?_
      refine WL.nil ?_
      refine WX.next ?_
      refine W.sub [(0, _), (3, _), (5, _), (6, _), (7, _), (8, _)] (.cons rfl (.cons rfl (.cons rfl (.cons rfl (.cons rfl (.cons rfl .nil)))))) ?_
      refine W.seq ?_
      refine W.region ?_
      refine WL.move rfl rfl ?_
      refine WL.move rfl rfl ?_
      refine WL.appendBH Try.elem5 rfl rfl M (by first | ((repeat (first | with_reducible exact Del.here | with_reducible apply Del.there)); done) | (repeat (first | exact Del.here | apply Del.there))) (by first | first | with_reducible assumption | with_reducible exact RdB.mem (by with_reducible assumption) M | exact M.rdB (by first | ((repeat (first | with_reducible exact Has.here | with_reducible refine Has.there ?_)); done) | (repeat (first | exact Has.here | refine Has.there ?_))) | exact RdH.at (by assumption) (M.sel (by first | ((repeat (first | with_reducible exact Sel.refl | with_reducible exact Sel.nil | with_reducible exact Del.here | with_reducible apply Del.there | with_reducible apply Sel.cons | with_reducible apply Sel.drop)); done) | (repeat (first | exact Sel.refl | exact Sel.nil | exact Del.here | apply Del.there | apply Sel.cons | apply Sel.drop)))) | exact M.rdLit' (by first | ((repeat (first | with_reducible exact Has.here | with_reducible refine Has.there ?_)); done) | (repeat (first | exact Has.here | refine Has.there ?_))) | exact M.rdLent (by first | ((repeat (first | with_reducible exact Has.here | with_reducible refine Has.there ?_)); done) | (repeat (first | exact Has.here | refine Has.there ?_))) | exact RdB.nil _ _ | exact RdB.sub (by first | with_reducible assumption | with_reducible exact RdB.mem (by with_reducible assumption) M | exact M.rdB (by first | ((repeat (first | with_reducible exact Has.here | with_reducible refine Has.there ?_)); done) | (repeat (first | exact Has.here | refine Has.there ?_))) | exact RdH.at (by assumption) (M.sel (by first | ((repeat (first | with_reducible exact Sel.refl | with_reducible exact Sel.nil | with_reducible exact Del.here | with_reducible apply Del.there | with_reducible apply Sel.cons | with_reducible apply Sel.drop)); done) | (repeat (first | exact Sel.refl | exact Sel.nil | exact Del.here | apply Del.there | apply Sel.cons | apply Sel.drop)))) | exact M.rdLit' (by first | ((repeat (first | with_reducible exact Has.here | with_reducible refine Has.there ?_)); done) | (repeat (first | exact Has.here | refine Has.there ?_))) | exact M.rdLent (by first | ((repeat (first | with_reducible exact Has.here | with_reducible refine Has.there ?_)); done) | (repeat (first | exact Has.here | refine Has.there ?_))) | exact RdB.nil _ _) (by omega) (by omega) | exact RdB.pre' (by first | with_reducible assumption | with_reducible exact RdB.mem (by with_reducible assumption) M | exact M.rdB (by first | ((repeat (first | with_reducible exact Has.here | with_reducible refine Has.there ?_)); done) | (repeat (first | exact Has.here | refine Has.there ?_))) | exact RdH.at (by assumption) (M.sel (by first | ((repeat (first | with_reducible exact Sel.refl | with_reducible exact Sel.nil | with_reducible exact Del.here | with_reducible apply Del.there | with_reducible apply Sel.cons | with_reducible apply Sel.drop)); done) | (repeat (first | exact Sel.refl | exact Sel.nil | exact Del.here | apply Del.there | apply Sel.cons | apply Sel.drop)))) | exact M.rdLit' (by first | ((repeat (first | with_reducible exact Has.here | with_reducible refine Has.there ?_)); done) | (repeat (first | exact Has.here | refine Has.there ?_))) | exact M.rdLent (by first | ((repeat (first | with_reducible exact Has.here | with_reducible refine Has.there ?_)); done) | (repeat (first | exact Has.here | refine Has.there ?_))) | exact RdB.nil _ _) (by omega) | exact RdB.suf (by first | with_reducible assumption | with_reducible exact RdB.mem (by with_reducible assumption) M | exact M.rdB (by first | ((repeat (first | with_reducible exact Has.here | with_reducible refine Has.there ?_)); done) | (repeat (first | exact Has.here | refine Has.there ?_))) | exact RdH.at (by assumption) (M.sel (by first | ((repeat (first | with_reducible exact Sel.refl | with_reducible exact Sel.nil | with_reducible exact Del.here | with_reducible apply Del.there | with_reducible apply Sel.cons | with_reducible apply Sel.drop)); done) | (repeat (first | exact Sel.refl | exact Sel.nil | exact Del.here | apply Del.there | apply Sel.cons | apply Sel.drop)))) | exact M.rdLit' (by first | ((repeat (first | with_reducible exact Has.here | with_reducible refine Has.there ?_)); done) | (repeat (first | exact Has.here | refine Has.there ?_))) | exact M.rdLent (by first | ((repeat (first | with_reducible exact Has.here | with_reducible refine Has.there ?_)); done) | (repeat (first | exact Has.here | refine Has.there ?_))) | exact RdB.nil _ _) (by omega)) rfl rfl (by first | omega | (simp; done) | (simp; omega)) rfl ?_
      intro A10_2 cap10_2 w M
      refine WL.assign rfl rfl ?_
      refine WL.nil ?_
      refine WX.next ?_
      refine W.sub [(0, _), (3, _), (5, _), (7, _), (8, _)] (.cons rfl (.cons rfl (.cons rfl (.cons rfl (.cons rfl .nil))))) ?_
      refine W.seq ?_
      refine W.region ?_
      refine WL.move rfl rfl ?_
      refine WL.move rfl rfl ?_
      refine WL.appendBH Try.elem5 rfl rfl M (by first | ((repeat (first | with_reducible exact Del.here | with_reducible apply Del.there)); done) | (repeat (first | exact Del.here | apply Del.there))) (by first | first | with_reducible assumption | with_reducible exact RdB.mem (by with_reducible assumption) M | exact M.rdB (by first | ((repeat (first | with_reducible exact Has.here | with_reducible refine Has.there ?_)); done) | (repeat (first | exact Has.here | refine Has.there ?_))) | exact RdH.at (by assumption) (M.sel (by first | ((repeat (first | with_reducible exact Sel.refl | with_reducible exact Sel.nil | with_reducible exact Del.here | with_reducible apply Del.there | with_reducible apply Sel.cons | with_reducible apply Sel.drop)); done) | (repeat (first | exact Sel.refl | exact Sel.nil | exact Del.here | apply Del.there | apply Sel.cons | apply Sel.drop)))) | exact M.rdLit' (by first | ((repeat (first | with_reducible exact Has.here | with_reducible refine Has.there ?_)); done) | (repeat (first | exact Has.here | refine Has.there ?_))) | exact M.rdLent (by first | ((repeat (first | with_reducible exact Has.here | with_reducible refine Has.there ?_)); done) | (repeat (first | exact Has.here | refine Has.there ?_))) | exact RdB.nil _ _ | exact RdB.sub (by first | with_reducible assumption | with_reducible exact RdB.mem (by with_reducible assumption) M | exact M.rdB (by first | ((repeat (first | with_reducible exact Has.here | with_reducible refine Has.there ?_)); done) | (repeat (first | exact Has.here | refine Has.there ?_))) | exact RdH.at (by assumption) (M.sel (by first | ((repeat (first | with_reducible exact Sel.refl | with_reducible exact Sel.nil | with_reducible exact Del.here | with_reducible apply Del.there | with_reducible apply Sel.cons | with_reducible apply Sel.drop)); done) | (repeat (first | exact Sel.refl | exact Sel.nil | exact Del.here | apply Del.there | apply Sel.cons | apply Sel.drop)))) | exact M.rdLit' (by first | ((repeat (first | with_reducible exact Has.here | with_reducible refine Has.there ?_)); done) | (repeat (first | exact Has.here | refine Has.there ?_))) | exact M.rdLent (by first | ((repeat (first | with_reducible exact Has.here | with_reducible refine Has.there ?_)); done) | (repeat (first | exact Has.here | refine Has.there ?_))) | exact RdB.nil _ _) (by omega) (by omega) | exact RdB.pre' (by first | with_reducible assumption | with_reducible exact RdB.mem (by with_reducible assumption) M | exact M.rdB (by first | ((repeat (first | with_reducible exact Has.here | with_reducible refine Has.there ?_)); done) | (repeat (first | exact Has.here | refine Has.there ?_))) | exact RdH.at (by assumption) (M.sel (by first | ((repeat (first | with_reducible exact Sel.refl | with_reducible exact Sel.nil | with_reducible exact Del.here | with_reducible apply Del.there | with_reducible apply Sel.cons | with_reducible apply Sel.drop)); done) | (repeat (first | exact Sel.refl | exact Sel.nil | exact Del.here | apply Del.there | apply Sel.cons | apply Sel.drop)))) | exact M.rdLit' (by first | ((repeat (first | with_reducible exact Has.here | with_reducible refine Has.there ?_)); done) | (repeat (first | exact Has.here | refine Has.there ?_))) | exact M.rdLent (by first | ((repeat (first | with_reducible exact Has.here | with_reducible refine Has.there ?_)); done) | (repeat (first | exact Has.here | refine Has.there ?_))) | exact RdB.nil _ _) (by omega) | exact RdB.suf (by first | with_reducible assumption | with_reducible exact RdB.mem (by with_reducible assumption) M | exact M.rdB (by first | ((repeat (first | with_reducible exact Has.here | with_reducible refine Has.there ?_)); done) | (repeat (first | exact Has.here | refine Has.there ?_))) | exact RdH.at (by assumption) (M.sel (by first | ((repeat (first | with_reducible exact Sel.refl | with_reducible exact Sel.nil | with_reducible exact Del.here | with_reducible apply Del.there | with_reducible apply Sel.cons | with_reducible apply Sel.drop)); done) | (repeat (first | exact Sel.refl | exact Sel.nil | exact Del.here | apply Del.there | apply Sel.cons | apply Sel.drop)))) | exact M.rdLit' (by first | ((repeat (first | with_reducible exact Has.here | with_reducible refine Has.there ?_)); done) | (repeat (first | exact Has.here | refine Has.there ?_))) | exact M.rdLent (by first | ((repeat (first | with_reducible exact Has.here | with_reducible refine Has.there ?_)); done) | (repeat (first | exact Has.here | refine Has.there ?_))) | exact RdB.nil _ _) (by omega)) rfl rfl (by first | omega | (simp; done) | (simp; omega)) rfl ?_
      intro A11_2 cap11_2 w M
      refine WL.assign rfl rfl ?_
      refine WL.nil ?_
      refine WX.next ?_
      refine W.sub [(0, _), (3, _), (5, _), (8, _)] (.cons rfl (.cons rfl (.cons rfl (.cons rfl .nil)))) ?_
      refine W.seq ?_
      refine W.region ?_
      refine WL.move rfl rfl ?_
      refine WL.nilCheck rfl rfl ?_
      refine WL.fieldR (off := 1) Try.underlying65 rfl rfl Try.sizeOf41 rfl rfl rfl ?_
      refine WL.loadR Try.isAgg41 rfl M (by first | ((repeat (first | with_reducible exact Has.here | with_reducible refine Has.there ?_)); done) | (repeat (first | exact Has.here | refine Has.there ?_))) rfl rfl ?_
      refine WL.move rfl rfl ?_
      refine WL.idxA Try.underlying41 Try.sizeOf45 rfl rfl (RdL.isSome (E := clientE) (by first | with_reducible assumption | with_reducible exact RdL.mem (by with_reducible assumption) M | exact M.rdL (by first | ((repeat (first | with_reducible exact Has.here | with_reducible refine Has.there ?_)); done) | (repeat (first | exact Has.here | refine Has.there ?_))) | exact RdLH.at (by assumption) (M.sel (by first | ((repeat (first | with_reducible exact Sel.refl | with_reducible exact Sel.nil | with_reducible exact Del.here | with_reducible apply Del.there | with_reducible apply Sel.cons | with_reducible apply Sel.drop)); done) | (repeat (first | exact Sel.refl | exact Sel.nil | exact Del.here | apply Del.there | apply Sel.cons | apply Sel.drop)))) | exact RdL.nil _ _ _) (by omega)) (by omega) (by omega) (by first | exact rfl | exact (Int.toNat_of_nonneg (by omega)).symm) rfl ?_
      refine WL.fieldA (off := 2) Try.underlying45 rfl rfl Try.sizeOf4 rfl rfl rfl ?_
      refine WL.loadE (E := clientE) Try.isAgg4 rfl (by first | with_reducible assumption | with_reducible exact RdL.mem (by with_reducible assumption) M | exact M.rdL (by first | ((repeat (first | with_reducible exact Has.here | with_reducible refine Has.there ?_)); done) | (repeat (first | exact Has.here | refine Has.there ?_))) | exact RdLH.at (by assumption) (M.sel (by first | ((repeat (first | with_reducible exact Sel.refl | with_reducible exact Sel.nil | with_reducible exact Del.here | with_reducible apply Del.there | with_reducible apply Sel.cons | with_reducible apply Sel.drop)); done) | (repeat (first | exact Sel.refl | exact Sel.nil | exact Del.here | apply Del.there | apply Sel.cons | apply Sel.drop)))) | exact RdL.nil _ _ _) (by omega) rfl rfl ?_
      refine WL.nil ?_
      refine WX.next ?_
      refine W.sub [(0, _), (3, _), (5, _), (8, _), (74, _)] (.cons rfl (.cons rfl (.cons rfl (.cons rfl (.cons rfl .nil))))) ?_
      refine W.cond rfl (fun c1 => ?_) (fun c1 => ?_)
      · (try simp only [Bool.not_eq_true'] at c1); (try simp only [Bool.not_eq_false'] at c1); (try simp only [decide_eq_true_eq] at c1); (try simp only [decide_eq_false_iff_not] at c1)
        refine W.region ?_
        refine WL.move rfl rfl ?_
        refine WL.buildB (es := [_]) Try.elem5 M rfl rfl (by apply BytesOf.lit (b := 1) (by decide); exact BytesOf.nil) (by rfl) rfl rfl ?_
        intro g13_1 w M
        refine WL.appendBH Try.elem5 rfl rfl M (by first | ((repeat (first | with_reducible exact Del.here | with_reducible apply Del.there)); done) | (repeat (first | exact Del.here | apply Del.there))) (by first | first | with_reducible assumption | with_reducible exact RdB.mem (by with_reducible assumption) M | exact M.rdB (by first | ((repeat (first | with_reducible exact Has.here | with_reducible refine Has.there ?_)); done) | (repeat (first | exact Has.here | refine Has.there ?_))) | exact RdH.at (by assumption) (M.sel (by first | ((repeat (first | with_reducible exact Sel.refl | with_reducible exact Sel.nil | with_reducible exact Del.here | with_reducible apply Del.there | with_reducible apply Sel.cons | with_reducible apply Sel.drop)); done) | (repeat (first | exact Sel.refl | exact Sel.nil | exact Del.here | apply Del.there | apply Sel.cons | apply Sel.drop)))) | exact M.rdLit' (by first | ((repeat (first | with_reducible exact Has.here | with_reducible refine Has.there ?_)); done) | (repeat (first | exact Has.here | refine Has.there ?_))) | exact M.rdLent (by first | ((repeat (first | with_reducible exact Has.here | with_reducible refine Has.there ?_)); done) | (repeat (first | exact Has.here | refine Has.there ?_))) | exact RdB.nil _ _ | exact RdB.sub (by first | with_reducible assumption | with_reducible exact RdB.mem (by with_reducible assumption) M | exact M.rdB (by first | ((repeat (first | with_reducible exact Has.here | with_reducible refine Has.there ?_)); done) | (repeat (first | exact Has.here | refine Has.there ?_))) | exact RdH.at (by assumption) (M.sel (by first | ((repeat (first | with_reducible exact Sel.refl | with_reducible exact Sel.nil | with_reducible exact Del.here | with_reducible apply Del.there | with_reducible apply Sel.cons | with_reducible apply Sel.drop)); done) | (repeat (first | exact Sel.refl | exact Sel.nil | exact Del.here | apply Del.there | apply Sel.cons | apply Sel.drop)))) | exact M.rdLit' (by first | ((repeat (first | with_reducible exact Has.here | with_reducible refine Has.there ?_)); done) | (repeat (first | exact Has.here | refine Has.there ?_))) | exact M.rdLent (by first | ((repeat (first | with_reducible exact Has.here | with_reducible refine Has.there ?_)); done) | (repeat (first | exact Has.here | refine Has.there ?_))) | exact RdB.nil _ _) (by omega) (by omega) | exact RdB.pre' (by first | with_reducible assumption | with_reducible exact RdB.mem (by with_reducible assumption) M | exact M.rdB (by first | ((repeat (first | with_reducible exact Has.here | with_reducible refine Has.there ?_)); done) | (repeat (first | exact Has.here | refine Has.there ?_))) | exact RdH.at (by assumption) (M.sel (by first | ((repeat (first | with_reducible exact Sel.refl | with_reducible exact Sel.nil | with_reducible exact Del.here | with_reducible apply Del.there | with_reducible apply Sel.cons | with_reducible apply Sel.drop)); done) | (repeat (first | exact Sel.refl | exact Sel.nil | exact Del.here | apply Del.there | apply Sel.cons | apply Sel.drop)))) | exact M.rdLit' (by first | ((repeat (first | with_reducible exact Has.here | with_reducible refine Has.there ?_)); done) | (repeat (first | exact Has.here | refine Has.there ?_))) | exact M.rdLent (by first | ((repeat (first | with_reducible exact Has.here | with_reducible refine Has.there ?_)); done) | (repeat (first | exact Has.here | refine Has.there ?_))) | exact RdB.nil _ _) (by omega) | exact RdB.suf (by first | with_reducible assumption | with_reducible exact RdB.mem (by with_reducible assumption) M | exact M.rdB (by first | ((repeat (first | with_reducible exact Has.here | with_reducible refine Has.there ?_)); done) | (repeat (first | exact Has.here | refine Has.there ?_))) | exact RdH.at (by assumption) (M.sel (by first | ((repeat (first | with_reducible exact Sel.refl | with_reducible exact Sel.nil | with_reducible exact Del.here | with_reducible apply Del.there | with_reducible apply Sel.cons | with_reducible apply Sel.drop)); done) | (repeat (first | exact Sel.refl | exact Sel.nil | exact Del.here | apply Del.there | apply Sel.cons | apply Sel.drop)))) | exact M.rdLit' (by first | ((repeat (first | with_reducible exact Has.here | with_reducible refine Has.there ?_)); done) | (repeat (first | exact Has.here | refine Has.there ?_))) | exact M.rdLent (by first | ((repeat (first | with_reducible exact Has.here | with_reducible refine Has.there ?_)); done) | (repeat (first | exact Has.here | refine Has.there ?_))) | exact RdB.nil _ _) (by omega)) rfl rfl (by first | omega | (simp; done) | (simp; omega)) rfl ?_
        intro A13_2 cap13_2 w M
        refine WL.assign rfl rfl ?_
        refine WL.nil ?_
        refine WX.blockNormal ?_
        have hE : ((o ++ put (el cs i).id) ++ put (el cs i).num) ++ [1] = o ++ saveC (el cs i).key := by
          unfold saveC
          rw [if_pos (show (el cs i).key.busy = true from c1)]
          simp [ClX.key]
        rw [hE] at M ⊢
        refine WX.join ((A13_2, cap13_2)) (by (repeat' (first | exact envSub.nil | refine envSub.cons ?_ ?_)) <;> first | rfl | (refine congrArg some ?_; refine congrArg (Value.int _) ?_; first | omega | (dsimp only; omega)) | (simp; done) | (refine congrArg some ?_; dsimp only; congr 1; omega) | (simp; omega)) ⟨M.sel (by first | ((repeat (first | with_reducible exact Sel.refl | with_reducible exact Sel.nil | with_reducible exact Del.here | with_reducible apply Del.there | with_reducible apply Sel.cons | with_reducible apply Sel.drop)); done) | (repeat (first | exact Sel.refl | exact Sel.nil | exact Del.here | apply Del.there | apply Sel.cons | apply Sel.drop))), (by first | trivial | omega | (dsimp only; omega) | (simp; done))⟩
      · (try simp only [Bool.not_eq_true'] at c1); (try simp only [Bool.not_eq_false'] at c1); (try simp only [decide_eq_true_eq] at c1); (try simp only [decide_eq_false_iff_not] at c1)
        refine W.seq ?_
        refine W.region ?_
        refine WL.move rfl rfl ?_
        refine WL.buildB (es := [_]) Try.elem5 M rfl rfl (by apply BytesOf.lit (b := 0) (by decide); exact BytesOf.nil) (by rfl) rfl rfl ?_
        intro g14_1 w M
        refine WL.appendBH Try.elem5 rfl rfl M (by first | ((repeat (first | with_reducible exact Del.here | with_reducible apply Del.there)); done) | (repeat (first | exact Del.here | apply Del.there))) (by first | first | with_reducible assumption | with_reducible exact RdB.mem (by with_reducible assumption) M | exact M.rdB (by first | ((repeat (first | with_reducible exact Has.here | with_reducible refine Has.there ?_)); done) | (repeat (first | exact Has.here | refine Has.there ?_))) | exact RdH.at (by assumption) (M.sel (by first | ((repeat (first | with_reducible exact Sel.refl | with_reducible exact Sel.nil | with_reducible exact Del.here | with_reducible apply Del.there | with_reducible apply Sel.cons | with_reducible apply Sel.drop)); done) | (repeat (first | exact Sel.refl | exact Sel.nil | exact Del.here | apply Del.there | apply Sel.cons | apply Sel.drop)))) | exact M.rdLit' (by first | ((repeat (first | with_reducible exact Has.here | with_reducible refine Has.there ?_)); done) | (repeat (first | exact Has.here | refine Has.there ?_))) | exact M.rdLent (by first | ((repeat (first | with_reducible exact Has.here | with_reducible refine Has.there ?_)); done) | (repeat (first | exact Has.here | refine Has.there ?_))) | exact RdB.nil _ _ | exact RdB.sub (by first | with_reducible assumption | with_reducible exact RdB.mem (by with_reducible assumption) M | exact M.rdB (by first | ((repeat (first | with_reducible exact Has.here | with_reducible refine Has.there ?_)); done) | (repeat (first | exact Has.here | refine Has.there ?_))) | exact RdH.at (by assumption) (M.sel (by first | ((repeat (first | with_reducible exact Sel.refl | with_reducible exact Sel.nil | with_reducible exact Del.here | with_reducible apply Del.there | with_reducible apply Sel.cons | with_reducible apply Sel.drop)); done) | (repeat (first | exact Sel.refl | exact Sel.nil | exact Del.here | apply Del.there | apply Sel.cons | apply Sel.drop)))) | exact M.rdLit' (by first | ((repeat (first | with_reducible exact Has.here | with_reducible refine Has.there ?_)); done) | (repeat (first | exact Has.here | refine Has.there ?_))) | exact M.rdLent (by first | ((repeat (first | with_reducible exact Has.here | with_reducible refine Has.there ?_)); done) | (repeat (first | exact Has.here | refine Has.there ?_))) | exact RdB.nil _ _) (by omega) (by omega) | exact RdB.pre' (by first | with_reducible assumption | with_reducible exact RdB.mem (by with_reducible assumption) M | exact M.rdB (by first | ((repeat (first | with_reducible exact Has.here | with_reducible refine Has.there ?_)); done) | (repeat (first | exact Has.here | refine Has.there ?_))) | exact RdH.at (by assumption) (M.sel (by first | ((repeat (first | with_reducible exact Sel.refl | with_reducible exact Sel.nil | with_reducible exact Del.here | with_reducible apply Del.there | with_reducible apply Sel.cons | with_reducible apply Sel.drop)); done) | (repeat (first | exact Sel.refl | exact Sel.nil | exact Del.here | apply Del.there | apply Sel.cons | apply Sel.drop)))) | exact M.rdLit' (by first | ((repeat (first | with_reducible exact Has.here | with_reducible refine Has.there ?_)); done) | (repeat (first | exact Has.here | refine Has.there ?_))) | exact M.rdLent (by first | ((repeat (first | with_reducible exact Has.here | with_reducible refine Has.there ?_)); done) | (repeat (first | exact Has.here | refine Has.there ?_))) | exact RdB.nil _ _) (by omega) | exact RdB.suf (by first | with_reducible assumption | with_reducible exact RdB.mem (by with_reducible assumption) M | exact M.rdB (by first | ((repeat (first | with_reducible exact Has.here | with_reducible refine Has.there ?_)); done) | (repeat (first | exact Has.here | refine Has.there ?_))) | exact RdH.at (by assumption) (M.sel (by first | ((repeat (first | with_reducible exact Sel.refl | with_reducible exact Sel.nil | with_reducible exact Del.here | with_reducible apply Del.there | with_reducible apply Sel.cons | with_reducible apply Sel.drop)); done) | (repeat (first | exact Sel.refl | exact Sel.nil | exact Del.here | apply Del.there | apply Sel.cons | apply Sel.drop)))) | exact M.rdLit' (by first | ((repeat (first | with_reducible exact Has.here | with_reducible refine Has.there ?_)); done) | (repeat (first | exact Has.here | refine Has.there ?_))) | exact M.rdLent (by first | ((repeat (first | with_reducible exact Has.here | with_reducible refine Has.there ?_)); done) | (repeat (first | exact Has.here | refine Has.there ?_))) | exact RdB.nil _ _) (by omega)) rfl rfl (by first | omega | (simp; done) | (simp; omega)) rfl ?_
        intro A14_2 cap14_2 w M
        refine WL.assign rfl rfl ?_
        refine WL.nil ?_
        refine WX.next ?_
        refine W.sub [(0, _), (3, _), (5, _), (8, _)] (.cons rfl (.cons rfl (.cons rfl (.cons rfl .nil)))) ?_
        refine W.region ?_
        refine WL.move rfl rfl ?_
        refine WL.move rfl rfl ?_
        refine WL.appendBH Try.elem5 rfl rfl M (by first | ((repeat (first | with_reducible exact Del.here | with_reducible apply Del.there)); done) | (repeat (first | exact Del.here | apply Del.there))) (by first | first | with_reducible assumption | with_reducible exact RdB.mem (by with_reducible assumption) M | exact M.rdB (by first | ((repeat (first | with_reducible exact Has.here | with_reducible refine Has.there ?_)); done) | (repeat (first | exact Has.here | refine Has.there ?_))) | exact RdH.at (by assumption) (M.sel (by first | ((repeat (first | with_reducible exact Sel.refl | with_reducible exact Sel.nil | with_reducible exact Del.here | with_reducible apply Del.there | with_reducible apply Sel.cons | with_reducible apply Sel.drop)); done) | (repeat (first | exact Sel.refl | exact Sel.nil | exact Del.here | apply Del.there | apply Sel.cons | apply Sel.drop)))) | exact M.rdLit' (by first | ((repeat (first | with_reducible exact Has.here | with_reducible refine Has.there ?_)); done) | (repeat (first | exact Has.here | refine Has.there ?_))) | exact M.rdLent (by first | ((repeat (first | with_reducible exact Has.here | with_reducible refine Has.there ?_)); done) | (repeat (first | exact Has.here | refine Has.there ?_))) | exact RdB.nil _ _ | exact RdB.sub (by first | with_reducible assumption | with_reducible exact RdB.mem (by with_reducible assumption) M | exact M.rdB (by first | ((repeat (first | with_reducible exact Has.here | with_reducible refine Has.there ?_)); done) | (repeat (first | exact Has.here | refine Has.there ?_))) | exact RdH.at (by assumption) (M.sel (by first | ((repeat (first | with_reducible exact Sel.refl | with_reducible exact Sel.nil | with_reducible exact Del.here | with_reducible apply Del.there | with_reducible apply Sel.cons | with_reducible apply Sel.drop)); done) | (repeat (first | exact Sel.refl | exact Sel.nil | exact Del.here | apply Del.there | apply Sel.cons | apply Sel.drop)))) | exact M.rdLit' (by first | ((repeat (first | with_reducible exact Has.here | with_reducible refine Has.there ?_)); done) | (repeat (first | exact Has.here | refine Has.there ?_))) | exact M.rdLent (by first | ((repeat (first | with_reducible exact Has.here | with_reducible refine Has.there ?_)); done) | (repeat (first | exact Has.here | refine Has.there ?_))) | exact RdB.nil _ _) (by omega) (by omega) | exact RdB.pre' (by first | with_reducible assumption | with_reducible exact RdB.mem (by with_reducible assumption) M | exact M.rdB (by first | ((repeat (first | with_reducible exact Has.here | with_reducible refine Has.there ?_)); done) | (repeat (first | exact Has.here | refine Has.there ?_))) | exact RdH.at (by assumption) (M.sel (by first | ((repeat (first | with_reducible exact Sel.refl | with_reducible exact Sel.nil | with_reducible exact Del.here | with_reducible apply Del.there | with_reducible apply Sel.cons | with_reducible apply Sel.drop)); done) | (repeat (first | exact Sel.refl | exact Sel.nil | exact Del.here | apply Del.there | apply Sel.cons | apply Sel.drop)))) | exact M.rdLit' (by first | ((repeat (first | with_reducible exact Has.here | with_reducible refine Has.there ?_)); done) | (repeat (first | exact Has.here | refine Has.there ?_))) | exact M.rdLent (by first | ((repeat (first | with_reducible exact Has.here | with_reducible refine Has.there ?_)); done) | (repeat (first | exact Has.here | refine Has.there ?_))) | exact RdB.nil _ _) (by omega) | exact RdB.suf (by first | with_reducible assumption | with_reducible exact RdB.mem (by with_reducible assumption) M | exact M.rdB (by first | ((repeat (first | with_reducible exact Has.here | with_reducible refine Has.there ?_)); done) | (repeat (first | exact Has.here | refine Has.there ?_))) | exact RdH.at (by assumption) (M.sel (by first | ((repeat (first | with_reducible exact Sel.refl | with_reducible exact Sel.nil | with_reducible exact Del.here | with_reducible apply Del.there | with_reducible apply Sel.cons | with_reducible apply Sel.drop)); done) | (repeat (first | exact Sel.refl | exact Sel.nil | exact Del.here | apply Del.there | apply Sel.cons | apply Sel.drop)))) | exact M.rdLit' (by first | ((repeat (first | with_reducible exact Has.here | with_reducible refine Has.there ?_)); done) | (repeat (first | exact Has.here | refine Has.there ?_))) | exact M.rdLent (by first | ((repeat (first | with_reducible exact Has.here | with_reducible refine Has.there ?_)); done) | (repeat (first | exact Has.here | refine Has.there ?_))) | exact RdB.nil _ _) (by omega)) rfl rfl (by first | omega | (simp; done) | (simp; omega)) rfl ?_
        intro A15_2 cap15_2 w M
        refine WL.assign rfl rfl ?_
        refine WL.nil ?_
        refine WX.blockNormal ?_
        have hE : (((o ++ put (el cs i).id) ++ put (el cs i).num) ++ [0]) ++ (put (el cs i).rep.length ++ (el cs i).rep) = o ++ saveC (el cs i).key := by
          unfold saveC
          rw [if_neg (show ¬ (el cs i).key.busy = true from by rw [show (el cs i).key.busy = (el cs i).busy from rfl, c1]; decide)]
          simp [ClX.key]
        rw [hE] at M ⊢
        refine WX.join ((A15_2, cap15_2)) (by (repeat' (first | exact envSub.nil | refine envSub.cons ?_ ?_)) <;> first | rfl | (refine congrArg some ?_; refine congrArg (Value.int _) ?_; first | omega | (dsimp only; omega)) | (simp; done) | (refine congrArg some ?_; dsimp only; congr 1; omega) | (simp; omega)) ⟨M.sel (by first | ((repeat (first | with_reducible exact Sel.refl | with_reducible exact Sel.nil | with_reducible exact Del.here | with_reducible apply Del.there | with_reducible apply Sel.cons | with_reducible apply Sel.drop)); done) | (repeat (first | exact Sel.refl | exact Sel.nil | exact Del.here | apply Del.there | apply Sel.cons | apply Sel.drop))), (by first | trivial | omega | (dsimp only; omega) | (simp; done))⟩
    clear M; rintro (⟨B2, c2⟩) w ⟨M, -⟩; dsimp only at M ⊢
    refine W.sub [(0, _), (3, _), (5, _)] (.cons rfl (.cons rfl (.cons rfl .nil))) ?_
    refine W.region ?_
    refine WL.move rfl rfl ?_
    refine WL.add rfl rfl (by first | exact wI64 (by omega) | rfl) rfl ?_
    refine WL.assign rfl rfl ?_
    refine WL.nil ?_
    skip
    have q : o ++ saveC (el cs i).key = put most ++ (put cs.length ++ saveL ((cs.take (i + 1)).map ClX.key)) := by
      rw [hsn, ho]
      simp
    refine WX.round ((i + 1, (B2, c2, o ++ saveC (el cs i).key))) (by (repeat' (first | exact envSub.nil | refine envSub.cons ?_ ?_)) <;> first | rfl | (refine congrArg some ?_; refine congrArg (Value.int _) ?_; first | omega | (dsimp only; omega)) | (simp; done) | (refine congrArg some ?_; dsimp only; congr 1; omega) | (simp; omega)) ⟨M.sel (by first | ((repeat (first | with_reducible exact Sel.refl | with_reducible exact Sel.nil | with_reducible exact Del.here | with_reducible apply Del.there | with_reducible apply Sel.cons | with_reducible apply Sel.drop)); done) | (repeat (first | exact Sel.refl | exact Sel.nil | exact Del.here | apply Del.there | apply Sel.cons | apply Sel.drop))), ⟨by dsimp only; omega, q, by dsimp only; rw [List.length_append]; omega⟩⟩ (by first | omega | (dsimp only; omega))
  · refine W.exit ?_
    refine WX.thenExit ?_
    refine WX.thenExit ?_
    refine WX.blockHere ?_
    refine WX.next ?_
    refine W.seq ?_
    refine W.region ?_
    refine WL.move rfl rfl ?_
    refine WL.assign rfl rfl ?_
    refine WL.nil ?_
    refine WX.next ?_
    refine W.sub [(2, _)] (.cons rfl .nil) ?_
    refine W.ret ?_
    refine WX.ret1 rfl rfl ?_
    obtain rfl : i = cs.length := by omega
    rw [List.take_length] at ho
    subst ho
    exact ⟨B, c, rfl, M⟩
end Go.Proofs.Ytmogpoghngmnmaa
