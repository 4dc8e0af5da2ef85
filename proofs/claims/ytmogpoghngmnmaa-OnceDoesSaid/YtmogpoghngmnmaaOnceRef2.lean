/-
  Walks: the document's table: Begin, End (seawallref13).
-/
import Derived.Test.YtmogpoghngmnmaaOnceRef1
import Derived.Test.YtmogpoghngmnmaaOnce7
import Derived.Test.YtmogpoghngmnmaaLists
namespace Go.Proofs.Ytmogpoghngmnmaa
open Go Go.RowKit

def RefBegAns (t : Tb) (id num : Nat) (g : Nat) (w0 : World) (L : List Asr) (v : Value) (w' : World) : Prop :=
  ∃ (x' : RT) (A' : Option Addr) (cap' : Nat), v = .tuple #[.int .i64 (begA t id num), .slice A' (begR t id num).length cap', .int .i64 (begE t id num)] ∧ g = x'.g ∧ x'.s = begS t id num ∧
    Mem w0 w' (x'.L ++ L) ∧ RdB w' A' cap' (begR t id num)

set_option maxRecDepth 10000 in
set_option maxHeartbeats 1000000 in
theorem refBegin_ok (x : RT) (hok : x.s.ok) (hb : x.begun < 4611686018427387904 ∧ x.was < 4611686018427387904) (id num : Nat) (hid : id < 18446744073709551616) (hnum : num < 18446744073709551616) (w0 w : World) (L : List Asr) (M : Mem w0 w (x.L ++ L)) :
    Fn Try.prog 23 [.pointer (some ⟨x.g, 0, none⟩), .int .u64 (id : Int), .int .u64 (num : Int)] w (RefBegAns x.s id num x.g w0 L) := by
  have hlen := hok.len
  have hmost := hok.most
  have M0 := M
  obtain ⟨T, hT⟩ : ∃ T, T = x.s := ⟨_, rfl⟩
  rw [← hT]
  have hTp : posN T.l id = posC x.cs id := by rw [hT, posC_key]; rfl
  have hTf : freeL T.l = freeN x.cs := by rw [hT, freeN_key]; rfl
  have hTl : T.l.length = x.cs.length := by rw [hT]; exact List.length_map ..
  have hTe : ∀ k, k < x.cs.length → el T.l k = (el x.cs k).key := fun k hk => by rw [hT]; exact el_map _ _ _ hk
  have hTm : T.most = x.most := by rw [hT]; rfl
  have hTb : T.begun = x.begun := by rw [hT]; rfl
  have hTw : T.was = x.was := by rw [hT]; rfl
  have hTL : T.l = x.cs.map ClX.key := by rw [hT]; rfl
  have hple : posC x.cs id ≤ x.cs.length := by rw [posC_key]; simpa using pos_le (x.cs.map ClX.key) id
  have hfle : freeN x.cs ≤ x.cs.length := List.findIdx_le_length
  rw [show x.s.l.length = x.cs.length from List.length_map ..] at hlen
  rw [show x.s.most = x.most from rfl] at hlen hmost
  have same : ∀ (a e : Int), a = begA T id num → e = begE T id num → begR T id num = [] → begS T id num = T → ∀ w', Mem w0 w' (x.L ++ L) → RefBegAns T id num x.g w0 L (.tuple #[.int .i64 a, .slice none 0 0, .int .i64 e]) w' := by
    rintro a e rfl rfl hr hs2 w' M'
    refine ⟨x, none, 0, by rw [hr]; rfl, rfl, by rw [hs2, hT], M', ?_⟩
    rw [hr]
    exact RdB.nil _ _
  obtain ⟨g, most, A, cap, cs, begun, was⟩ := x
  dsimp only at *
  obtain ⟨p, hp⟩ : ∃ p, p = posC cs id := ⟨_, rfl⟩
  rw [← hp] at hTp hple
  refine Fn.enter Try.func23 rfl Try.ntmps23 rfl ?_
  refine W.sub [(0, _), (1, _), (2, _)] (.cons rfl (.cons rfl (.cons rfl .nil))) ?_
  refine W.seq ?_
  refine W.region ?_
  refine WL.assign rfl rfl ?_
  refine WL.assign rfl rfl ?_
  refine WL.assign rfl rfl ?_
  refine WL.nil ?_
  refine WX.next ?_
  refine W.sub [(0, _), (1, _), (2, _)] (.cons rfl (.cons rfl (.cons rfl .nil))) ?_
  refine W.seq ?_
  refine W.region ?_
  refine WL.move rfl rfl ?_
  refine WL.move rfl rfl ?_
  refine WL.call Try.call43 rfl (refFind_ok ⟨g, most, A, cap, cs, begun, was⟩ (by dsimp only; omega) id w0 w L M0) rfl ?_
  rintro _ w ⟨rfl, M⟩
  rw [← hp]
  dsimp only
  have M1 := M
  unfold RT.L RT.row at M
  simp only [List.cons_append, List.nil_append] at M
  (try dsimp only at M)
  refine WL.assign rfl rfl ?_
  refine WL.nil ?_
  refine WX.next ?_
  refine W.sub [(0, _), (1, _), (2, _), (9, _)] (.cons rfl (.cons rfl (.cons rfl (.cons rfl .nil)))) ?_
  refine W.joint (fun (_ : Unit) => [(0, .pointer (some ⟨g, 0, none⟩)), (1, .int .u64 (id : Int)), (2, .int .u64 (num : Int)), (9, .int .i64 (atI cs.length p))]) (fun j w => Mem w0 w ((fun _ => RT.L ⟨g, most, A, cap, cs, begun, was⟩ ++ L) j) ∧ (fun _ => num ≠ 0 ∧ ¬ (p < cs.length ∧ num ≤ (el cs p).num)) j) ?_ ?_
  · refine W.block ?_
    refine W.seq ?_
    refine W.region ?_
    refine WL.move rfl rfl ?_
    refine WL.eqI rfl rfl rfl ?_
    refine WL.assign rfl rfl ?_
    refine WL.nil ?_
    refine WX.next ?_
    refine W.sub [(0, _), (1, _), (2, _), (9, _), (14, _)] (.cons rfl (.cons rfl (.cons rfl (.cons rfl (.cons rfl .nil))))) ?_
    refine W.ite rfl (fun c0 => ?_) (fun c0 => ?_)
    · refine W.seq ?_
      refine W.region ?_
      refine WL.assign rfl rfl ?_
      refine WL.assign rfl rfl ?_
      refine WL.assign rfl rfl ?_
      refine WL.nil ?_
      refine WX.next ?_
      refine W.sub [(6, _), (7, _), (8, _)] (.cons rfl (.cons rfl (.cons rfl .nil))) ?_
      refine W.ret ?_
      refine WX.blockRet ?_
      refine WX.thenRet ?_
      refine WX.ret3 rfl rfl rfl rfl ?_
      have hk := begK_0 (t := T) (id := id) (num := num) (by omega)
      exact same 0 2 (by unfold begA; rw [hk]; rfl) (by unfold begE; rw [hk]; rfl) (by unfold begR; rw [hk]; rfl) (by unfold begS; rw [hk]; rfl) _ M1
    · refine W.seq ?_
      refine W.region ?_
      refine WL.move rfl rfl ?_
      refine WL.geq rfl rfl rfl ?_
      refine WL.moveIf rfl rfl (fun c1 => ?_) (fun c1 => ?_)
      · have hat : p < cs.length := atI_ge (by omega)
        have hai := atI_in hat
        refine WL.on rfl rfl ?_
        refine WL.move rfl rfl ?_
        refine WL.on rfl rfl ?_
        refine WL.nilCheck rfl rfl ?_
        refine WL.on rfl rfl ?_
        refine WL.fieldR (off := 1) Try.underlying65 rfl rfl Try.sizeOf41 rfl rfl rfl ?_
        refine WL.on rfl rfl ?_
        refine WL.loadR Try.isAgg41 rfl M (by first | ((repeat (first | with_reducible exact Has.here | with_reducible refine Has.there ?_)); done) | (repeat (first | exact Has.here | refine Has.there ?_))) rfl rfl ?_
        refine WL.on rfl rfl ?_
        refine WL.move rfl rfl ?_
        refine WL.on rfl rfl ?_
        refine WL.idxA Try.underlying41 Try.sizeOf45 rfl rfl (RdL.isSome (E := clientE) (by first | with_reducible assumption | with_reducible exact RdL.mem (by with_reducible assumption) M | exact M.rdL (by first | ((repeat (first | with_reducible exact Has.here | with_reducible refine Has.there ?_)); done) | (repeat (first | exact Has.here | refine Has.there ?_))) | exact RdLH.at (by assumption) (M.sel (by first | ((repeat (first | with_reducible exact Sel.refl | with_reducible exact Sel.nil | with_reducible exact Del.here | with_reducible apply Del.there | with_reducible apply Sel.cons | with_reducible apply Sel.drop)); done) | (repeat (first | exact Sel.refl | exact Sel.nil | exact Del.here | apply Del.there | apply Sel.cons | apply Sel.drop)))) | exact RdL.nil _ _ _) (by omega)) (by omega) (by omega) hai rfl ?_
        refine WL.on rfl rfl ?_
        refine WL.fieldA (off := 1) Try.underlying45 rfl rfl Try.sizeOf29 rfl rfl rfl ?_
        refine WL.on rfl rfl ?_
        refine WL.loadE (E := clientE) Try.isAgg29 rfl (by first | with_reducible assumption | with_reducible exact RdL.mem (by with_reducible assumption) M | exact M.rdL (by first | ((repeat (first | with_reducible exact Has.here | with_reducible refine Has.there ?_)); done) | (repeat (first | exact Has.here | refine Has.there ?_))) | exact RdLH.at (by assumption) (M.sel (by first | ((repeat (first | with_reducible exact Sel.refl | with_reducible exact Sel.nil | with_reducible exact Del.here | with_reducible apply Del.there | with_reducible apply Sel.cons | with_reducible apply Sel.drop)); done) | (repeat (first | exact Sel.refl | exact Sel.nil | exact Del.here | apply Del.there | apply Sel.cons | apply Sel.drop)))) | exact RdL.nil _ _ _) (by omega) rfl rfl ?_
        refine WL.on rfl rfl ?_
        refine WL.move rfl rfl ?_
        refine WL.on rfl rfl ?_
        refine WL.gtr rfl rfl rfl ?_
        refine WL.pickT rfl rfl rfl ?_
        refine WL.assign rfl rfl ?_
        refine WL.nil ?_
        refine WX.next ?_
        refine W.sub [(0, _), (1, _), (2, _), (9, _), (17, _)] (.cons rfl (.cons rfl (.cons rfl (.cons rfl (.cons rfl .nil))))) ?_
        refine W.ite rfl (fun c2 => ?_) (fun c2 => ?_)
        · refine W.seq ?_
          refine W.region ?_
          refine WL.assign rfl rfl ?_
          refine WL.assign rfl rfl ?_
          refine WL.assign rfl rfl ?_
          refine WL.nil ?_
          refine WX.next ?_
          refine W.sub [(6, _), (7, _), (8, _)] (.cons rfl (.cons rfl (.cons rfl .nil))) ?_
          refine W.ret ?_
          refine WX.blockRet ?_
          refine WX.thenRet ?_
          refine WX.ret3 rfl rfl rfl rfl ?_
          have e1 := begK_1 (t := T) (id := id) (num := num) (by omega) (by omega) (by rw [hTp, hTe p hat]; show num < (el cs p).num; omega)
          exact same 0 70 (by unfold begA; rw [e1]; rfl) (by unfold begE; rw [e1]; rfl) (by unfold begR; rw [e1]; rfl) (by unfold begS; rw [e1]; rfl) _ M1
        · refine W.seq ?_
          refine W.region ?_
          refine WL.move rfl rfl ?_
          refine WL.geq rfl rfl rfl ?_
          refine WL.moveIf rfl rfl (fun c3 => ?_) (fun c3 => ?_)
          · refine WL.on rfl rfl ?_
            refine WL.move rfl rfl ?_
            refine WL.on rfl rfl ?_
            refine WL.nilCheck rfl rfl ?_
            refine WL.on rfl rfl ?_
            refine WL.fieldR (off := 1) Try.underlying65 rfl rfl Try.sizeOf41 rfl rfl rfl ?_
            refine WL.on rfl rfl ?_
            refine WL.loadR Try.isAgg41 rfl M (by first | ((repeat (first | with_reducible exact Has.here | with_reducible refine Has.there ?_)); done) | (repeat (first | exact Has.here | refine Has.there ?_))) rfl rfl ?_
            refine WL.on rfl rfl ?_
            refine WL.move rfl rfl ?_
            refine WL.on rfl rfl ?_
            refine WL.idxA Try.underlying41 Try.sizeOf45 rfl rfl (RdL.isSome (E := clientE) (by first | with_reducible assumption | with_reducible exact RdL.mem (by with_reducible assumption) M | exact M.rdL (by first | ((repeat (first | with_reducible exact Has.here | with_reducible refine Has.there ?_)); done) | (repeat (first | exact Has.here | refine Has.there ?_))) | exact RdLH.at (by assumption) (M.sel (by first | ((repeat (first | with_reducible exact Sel.refl | with_reducible exact Sel.nil | with_reducible exact Del.here | with_reducible apply Del.there | with_reducible apply Sel.cons | with_reducible apply Sel.drop)); done) | (repeat (first | exact Sel.refl | exact Sel.nil | exact Del.here | apply Del.there | apply Sel.cons | apply Sel.drop)))) | exact RdL.nil _ _ _) (by omega)) (by omega) (by omega) hai rfl ?_
            refine WL.on rfl rfl ?_
            refine WL.fieldA (off := 1) Try.underlying45 rfl rfl Try.sizeOf29 rfl rfl rfl ?_
            refine WL.on rfl rfl ?_
            refine WL.loadE (E := clientE) Try.isAgg29 rfl (by first | with_reducible assumption | with_reducible exact RdL.mem (by with_reducible assumption) M | exact M.rdL (by first | ((repeat (first | with_reducible exact Has.here | with_reducible refine Has.there ?_)); done) | (repeat (first | exact Has.here | refine Has.there ?_))) | exact RdLH.at (by assumption) (M.sel (by first | ((repeat (first | with_reducible exact Sel.refl | with_reducible exact Sel.nil | with_reducible exact Del.here | with_reducible apply Del.there | with_reducible apply Sel.cons | with_reducible apply Sel.drop)); done) | (repeat (first | exact Sel.refl | exact Sel.nil | exact Del.here | apply Del.there | apply Sel.cons | apply Sel.drop)))) | exact RdL.nil _ _ _) (by omega) rfl rfl ?_
            refine WL.on rfl rfl ?_
            refine WL.move rfl rfl ?_
            refine WL.on rfl rfl ?_
            refine WL.eqI rfl rfl rfl ?_
            refine WL.pickT rfl rfl rfl ?_
            refine WL.assign rfl rfl ?_
            refine WL.nil ?_
            refine WX.next ?_
            refine W.sub [(0, _), (1, _), (2, _), (9, _), (32, _)] (.cons rfl (.cons rfl (.cons rfl (.cons rfl (.cons rfl .nil))))) ?_
            refine W.ite rfl (fun c4 => ?_) (fun c4 => ?_)
            · refine W.seq ?_
              refine W.region ?_
              refine WL.move rfl rfl ?_
              refine WL.nilCheck rfl rfl ?_
              refine WL.fieldR (off := 1) Try.underlying65 rfl rfl Try.sizeOf41 rfl rfl rfl ?_
              refine WL.loadR Try.isAgg41 rfl M (by first | ((repeat (first | with_reducible exact Has.here | with_reducible refine Has.there ?_)); done) | (repeat (first | exact Has.here | refine Has.there ?_))) rfl rfl ?_
              refine WL.move rfl rfl ?_
              refine WL.idxA Try.underlying41 Try.sizeOf45 rfl rfl (RdL.isSome (E := clientE) (by first | with_reducible assumption | with_reducible exact RdL.mem (by with_reducible assumption) M | exact M.rdL (by first | ((repeat (first | with_reducible exact Has.here | with_reducible refine Has.there ?_)); done) | (repeat (first | exact Has.here | refine Has.there ?_))) | exact RdLH.at (by assumption) (M.sel (by first | ((repeat (first | with_reducible exact Sel.refl | with_reducible exact Sel.nil | with_reducible exact Del.here | with_reducible apply Del.there | with_reducible apply Sel.cons | with_reducible apply Sel.drop)); done) | (repeat (first | exact Sel.refl | exact Sel.nil | exact Del.here | apply Del.there | apply Sel.cons | apply Sel.drop)))) | exact RdL.nil _ _ _) (by omega)) (by omega) (by omega) hai rfl ?_
              refine WL.loadL (E := clientE) (cs := [_, _, _, _]) Try.isAgg45 Try.sizeOf45 rfl (by first | with_reducible assumption | with_reducible exact RdL.mem (by with_reducible assumption) M | exact M.rdL (by first | ((repeat (first | with_reducible exact Has.here | with_reducible refine Has.there ?_)); done) | (repeat (first | exact Has.here | refine Has.there ?_))) | exact RdLH.at (by assumption) (M.sel (by first | ((repeat (first | with_reducible exact Sel.refl | with_reducible exact Sel.nil | with_reducible exact Del.here | with_reducible apply Del.there | with_reducible apply Sel.cons | with_reducible apply Sel.drop)); done) | (repeat (first | exact Sel.refl | exact Sel.nil | exact Del.here | apply Del.there | apply Sel.cons | apply Sel.drop)))) | exact RdL.nil _ _ _) rfl (by omega) rfl rfl ?_
              refine WL.alloc Try.zeroValue45 M rfl ?_
              intro g7_7 w M
              try simp only [Value.cells] at M
              try simp only [List.toList_toArray] at M
              refine WL.storeWA Try.sizeOf45 rfl rfl (by repeat (first | exact oneNil | refine oneCons rfl ?_)) rfl rfl M (by first | ((repeat (first | with_reducible exact Upd.here | with_reducible apply Upd.there)); done) | (repeat (first | exact Upd.here | apply Upd.there))) ?_
              intro w M
              refine WL.nil ?_
              refine WX.next ?_
              refine W.sub [(0, _), (9, _), (10, _)] (.cons rfl (.cons rfl (.cons rfl .nil))) ?_
              refine W.seq ?_
              refine W.region ?_
              refine WL.move rfl rfl ?_
              refine WL.move rfl rfl ?_
              refine WL.loadW Try.isAgg45 Try.sizeOf45 rfl M (by first | ((repeat (first | with_reducible exact Has.here | with_reducible refine Has.there ?_)); done) | (repeat (first | exact Has.here | refine Has.there ?_))) rfl rfl ?_
              refine WL.call Try.call44 rfl (last_ok g (.int .i64 (most : Int)) A cap cs _ _ p hple (by omega) (el cs p) w0 w _ (M.sel (K := Asr.row g 65 [.int .i64 (most : Int), .slice A cs.length cap, .int .i64 (begun : Int), .int .i64 (was : Int)] :: Asr.lst clientE A cap cs :: Asr.star (cs.map ClX.O) :: Asr.row g7_7 45 [.int .u64 ((el cs p).id : Int), .int .u64 ((el cs p).num : Int), .bool (el cs p).busy, .slice (el cs p).A (el cs p).rep.length (el cs p).cap] :: L) (by first | ((repeat (first | with_reducible exact Sel.refl | with_reducible exact Sel.nil | with_reducible exact Del.here | with_reducible apply Del.there | with_reducible apply Sel.cons | with_reducible apply Sel.drop)); done) | (repeat (first | exact Sel.refl | exact Sel.nil | exact Del.here | apply Del.there | apply Sel.cons | apply Sel.drop))))) rfl ?_
              rintro _ w ⟨rfl, A2, cap2, M⟩
              have hnum2 : num = (el cs p).num := by omega
              have hnum3 : num = (el T.l (posN T.l id)).num := by rw [hTp, hTe p hat]; exact hnum2
              have hbu : (el T.l (posN T.l id)).busy = (el cs p).busy := by rw [hTp, hTe p hat]; rfl
              have hlst : (cs.eraseIdx p ++ [el cs p]).map ClX.key = T.l.eraseIdx (posN T.l id) ++ [el T.l (posN T.l id)] := by
                rw [hTp, hTe p hat, hTL, List.map_append, map_eraseIdx']
                rfl
              refine WL.nil ?_
              refine WX.next ?_
              refine W.sub [(0, _), (10, _)] (.cons rfl (.cons rfl .nil)) ?_
              refine W.seq ?_
              refine W.seq ?_
              refine W.region ?_
              refine WL.fieldR (off := 2) Try.underlying45 rfl rfl Try.sizeOf4 rfl rfl rfl ?_
              refine WL.loadR Try.isAgg4 rfl M (by first | ((repeat (first | with_reducible exact Has.here | with_reducible refine Has.there ?_)); done) | (repeat (first | exact Has.here | refine Has.there ?_))) rfl rfl ?_
              refine WL.nil ?_
              refine WX.next ?_
              refine W.sub [(0, _), (10, _), (59, _)] (.cons rfl (.cons rfl (.cons rfl .nil))) ?_
              refine W.cond rfl (fun c5 => ?_) (fun c5 => ?_)
              · (try simp only [Bool.not_eq_true'] at c5); (try simp only [Bool.not_eq_false'] at c5); (try simp only [decide_eq_true_eq] at c5); (try simp only [decide_eq_false_iff_not] at c5)
                refine W.seq ?_
                refine W.region ?_
                refine WL.assign rfl rfl ?_
                refine WL.assign rfl rfl ?_
                refine WL.assign rfl rfl ?_
                refine WL.nil ?_
                refine WX.next ?_
                refine W.sub [(6, _), (7, _), (8, _)] (.cons rfl (.cons rfl (.cons rfl .nil))) ?_
                refine W.ret ?_
                refine WX.thenRet ?_
                refine WX.blockRet ?_
                refine WX.thenRet ?_
                refine WX.ret3 rfl rfl rfl rfl ?_
                have e1 := begK_2 (t := T) (id := id) (num := num) (by omega) (by omega) hnum3 (hbu.trans c5)
                have e2 : begS T id num = ⟨most, (cs.eraseIdx p ++ [el cs p]).map ClX.key, begun, was⟩ := by unfold begS; rw [if_pos e1, hlst, hTm, hTb, hTw]
                have M5 := Mem.starMove (M.sel (K := Asr.star (cs.map ClX.O) :: Asr.row g 65 [.int .i64 (most : Int), .slice A2 (cs.eraseIdx p ++ [el cs p]).length cap2, .int .i64 (begun : Int), .int .i64 (was : Int)] :: Asr.lst clientE A2 cap2 (cs.eraseIdx p ++ [el cs p]) :: L) (by first | ((repeat (first | with_reducible exact Sel.refl | with_reducible exact Sel.nil | with_reducible exact Del.here | with_reducible apply Del.there | with_reducible apply Sel.cons | with_reducible apply Sel.drop)); done) | (repeat (first | exact Sel.refl | exact Sel.nil | exact Del.here | apply Del.there | apply Sel.cons | apply Sel.drop)))) p hat
                have er : begR T id num = [] := by unfold begR; rw [e1]; rfl
                refine ⟨⟨g, most, A2, cap2, cs.eraseIdx p ++ [el cs p], begun, was⟩, none, 0, ?_, rfl, e2.symm, ?_, by rw [er]; exact RdB.nil _ _⟩
                · unfold begA begR begE; rw [e1]; rfl
                · unfold RT.L RT.row
                  exact M5.sel (by first | ((repeat (first | with_reducible exact Sel.refl | with_reducible exact Sel.nil | with_reducible exact Del.here | with_reducible apply Del.there | with_reducible apply Sel.cons | with_reducible apply Sel.drop)); done) | (repeat (first | exact Sel.refl | exact Sel.nil | exact Del.here | apply Del.there | apply Sel.cons | apply Sel.drop)))
              · (try simp only [Bool.not_eq_true'] at c5); (try simp only [Bool.not_eq_false'] at c5); (try simp only [decide_eq_true_eq] at c5); (try simp only [decide_eq_false_iff_not] at c5)
                refine W.skip ?_
                refine WX.next ?_
                refine W.seq ?_
                refine W.region ?_
                refine WL.move rfl rfl ?_
                refine WL.nilCheck rfl rfl ?_
                refine WL.fieldR (off := 3) Try.underlying65 rfl rfl Try.sizeOf3 rfl rfl rfl ?_
                refine WL.loadR Try.isAgg3 rfl M (by first | ((repeat (first | with_reducible exact Has.here | with_reducible refine Has.there ?_)); done) | (repeat (first | exact Has.here | refine Has.there ?_))) rfl rfl ?_
                refine WL.add rfl rfl (by first | exact wI64 (by omega) | rfl) rfl ?_
                refine WL.nilCheck rfl rfl ?_
                refine WL.fieldR (off := 3) Try.underlying65 rfl rfl Try.sizeOf3 rfl rfl rfl ?_
                refine WL.storeR Try.sizeOf3 rfl rfl rfl M (by first | ((repeat (first | with_reducible exact Has.here | with_reducible refine Has.there ?_)); done) | (repeat (first | exact Has.here | refine Has.there ?_))) (by repeat (first | exact SetAt.zero | apply SetAt.succ)) (by first | ((repeat (first | with_reducible exact Upd.here | with_reducible apply Upd.there)); done) | (repeat (first | exact Upd.here | apply Upd.there))) ?_
                intro w M
                refine WL.nil ?_
                refine WX.next ?_
                refine W.sub [(10, _)] (.cons rfl .nil) ?_
                refine W.seq ?_
                refine W.drawM (_) (by kernel_rfl) (fun _ => false) M Sel.refl ?_
                clear M; intro M
                apply DG.pure_ [0, 2] 3 rfl (by kernel_rfl) (by kernel_rfl)
                · intro w
                  refine WL.fieldR (off := 3) Try.underlying45 rfl rfl Try.sizeOf32 rfl rfl rfl ?_
                  refine WL.assign rfl rfl ?_
                  exact Chain.end_ rfl
                apply DG.take [1, 3, 4] 0 rfl (by kernel_rfl) (by kernel_rfl) (M.sel (by first | ((repeat (first | with_reducible exact Sel.refl | with_reducible exact Sel.nil | with_reducible exact Del.here | with_reducible apply Del.there | with_reducible apply Sel.cons | with_reducible apply Sel.drop)); done) | (repeat (first | exact Sel.refl | exact Sel.nil | exact Del.here | apply Del.there | apply Sel.cons | apply Sel.drop))))
                · intro w M
                  refine WL.loadR Try.isAgg32 rfl M (by first | ((repeat (first | with_reducible exact Has.here | with_reducible refine Has.there ?_)); done) | (repeat (first | exact Has.here | refine Has.there ?_))) rfl rfl ?_
                  refine WL.assign rfl rfl ?_
                  refine WL.assign rfl rfl ?_
                  exact Chain.end_ rfl
                refine DG.end_ (by kernel_rfl) ?_
                refine WX.next ?_
                refine W.sub [(6, _), (7, _), (8, _)] (.cons rfl (.cons rfl (.cons rfl .nil))) ?_
                refine W.ret ?_
                refine WX.blockRet ?_
                refine WX.thenRet ?_
                refine WX.ret3 rfl rfl rfl rfl ?_
                have e1 := begK_3 (t := T) (id := id) (num := num) (by omega) (by omega) hnum3 (by rw [hbu]; simpa using c5)
                have e2 : begS T id num = ⟨most, (cs.eraseIdx p ++ [el cs p]).map ClX.key, begun, was + 1⟩ := by unfold begS; rw [if_neg (by omega), if_pos e1, hlst, hTm, hTb, hTw]
                have er : begR T id num = (el cs p).rep := by unfold begR; rw [if_pos e1, hTp, hTe p hat]; rfl
                have hrd := ownRd (M.starHas (f := ClX.O) (l := cs) (by first | ((repeat (first | with_reducible exact Has.here | with_reducible refine Has.there ?_)); done) | (repeat (first | exact Has.here | refine Has.there ?_))) (el_mem hat))
                have M5 := Mem.starMove (M.sel (K := Asr.star (cs.map ClX.O) :: Asr.row g 65 [.int .i64 (most : Int), .slice A2 (cs.eraseIdx p ++ [el cs p]).length cap2, .int .i64 (begun : Int), .int .i64 ((was : Int) + 1)] :: Asr.lst clientE A2 cap2 (cs.eraseIdx p ++ [el cs p]) :: L) (by first | ((repeat (first | with_reducible exact Sel.refl | with_reducible exact Sel.nil | with_reducible exact Del.here | with_reducible apply Del.there | with_reducible apply Sel.cons | with_reducible apply Sel.drop)); done) | (repeat (first | exact Sel.refl | exact Sel.nil | exact Del.here | apply Del.there | apply Sel.cons | apply Sel.drop)))) p hat
                refine ⟨⟨g, most, A2, cap2, cs.eraseIdx p ++ [el cs p], begun, was + 1⟩, (el cs p).A, (el cs p).cap, ?_, rfl, e2.symm, ?_, by rw [er]; exact hrd⟩
                · rw [er]; unfold begA begE; rw [e1]; rfl
                · unfold RT.L RT.row
                  exact M5.sel (by first | ((repeat (first | with_reducible exact Sel.refl | with_reducible exact Sel.nil | with_reducible exact Del.here | with_reducible apply Del.there | with_reducible apply Sel.cons | with_reducible apply Sel.drop)); done) | (repeat (first | exact Sel.refl | exact Sel.nil | exact Del.here | apply Del.there | apply Sel.cons | apply Sel.drop)))
            · refine W.skip ?_
              refine WX.blockNormal ?_
              refine WX.join (()) (by (repeat' (first | exact envSub.nil | refine envSub.cons ?_ ?_)) <;> first | rfl | (refine congrArg some ?_; refine congrArg (Value.int _) ?_; first | omega | (dsimp only; omega)) | (simp; done) | (refine congrArg some ?_; dsimp only; congr 1; omega) | (simp; omega)) ⟨M1, ⟨(by omega), (by omega)⟩⟩
          · exact absurd c3 (by omega)
      · have hat : ¬ p < cs.length := atI_no (by omega)
        have hao := atI_out hat
        refine WL.off rfl rfl rfl rfl ?_
        refine WL.off rfl rfl rfl rfl ?_
        refine WL.off rfl rfl rfl rfl ?_
        refine WL.off rfl rfl rfl rfl ?_
        refine WL.off rfl rfl rfl rfl ?_
        refine WL.off rfl rfl rfl rfl ?_
        refine WL.off rfl rfl rfl rfl ?_
        refine WL.off rfl rfl rfl rfl ?_
        refine WL.off rfl rfl rfl rfl ?_
        refine WL.off rfl rfl rfl rfl ?_
        refine WL.pickF rfl rfl rfl ?_
        refine WL.assign rfl rfl ?_
        refine WL.nil ?_
        refine WX.next ?_
        refine W.sub [(0, _), (1, _), (2, _), (9, _), (17, _)] (.cons rfl (.cons rfl (.cons rfl (.cons rfl (.cons rfl .nil))))) ?_
        refine W.condF rfl ?_
        refine W.seq ?_
        refine W.region ?_
        refine WL.move rfl rfl ?_
        refine WL.geq rfl rfl rfl ?_
        refine WL.moveIf rfl rfl (fun c3 => ?_) (fun c3 => ?_)
        · exact absurd c3 (by omega)
        · refine WL.off rfl rfl rfl rfl ?_
          refine WL.off rfl rfl rfl rfl ?_
          refine WL.off rfl rfl rfl rfl ?_
          refine WL.off rfl rfl rfl rfl ?_
          refine WL.off rfl rfl rfl rfl ?_
          refine WL.off rfl rfl rfl rfl ?_
          refine WL.off rfl rfl rfl rfl ?_
          refine WL.off rfl rfl rfl rfl ?_
          refine WL.off rfl rfl rfl rfl ?_
          refine WL.off rfl rfl rfl rfl ?_
          refine WL.pickF rfl rfl rfl ?_
          refine WL.assign rfl rfl ?_
          refine WL.nil ?_
          refine WX.next ?_
          refine W.sub [(0, _), (1, _), (2, _), (9, _), (32, _)] (.cons rfl (.cons rfl (.cons rfl (.cons rfl (.cons rfl .nil))))) ?_
          refine W.condF rfl ?_
          refine W.skip ?_
          refine WX.blockNormal ?_
          refine WX.join (()) (by (repeat' (first | exact envSub.nil | refine envSub.cons ?_ ?_)) <;> first | rfl | (refine congrArg some ?_; refine congrArg (Value.int _) ?_; first | omega | (dsimp only; omega)) | (simp; done) | (refine congrArg some ?_; dsimp only; congr 1; omega) | (simp; omega)) ⟨M1, ⟨(by omega), (by omega)⟩⟩
  clear M; rintro (⟨⟩) w ⟨M, ⟨hn0, hno⟩⟩; dsimp only at M hn0 hno ⊢
  refine W.sub [(0, _), (1, _), (2, _), (9, _)] (.cons rfl (.cons rfl (.cons rfl (.cons rfl .nil)))) ?_
  have M1 := M
  unfold RT.L RT.row at M
  simp only [List.cons_append, List.nil_append] at M
  (try dsimp only at M)
  refine W.joint (fun (q : Nat) => [(0, .pointer (some ⟨g, 0, none⟩)), (1, .int .u64 (id : Int)), (2, .int .u64 (num : Int)), (9, .int .i64 (atI cs.length q))]) (fun j w => Mem w0 w ((fun _ => RT.L ⟨g, most, A, cap, cs, begun, was⟩ ++ L) j) ∧ (fun q => q ≤ cs.length ∧ q = begQ T id ∧ begK T id num = 5) j) ?_ ?_
  · refine W.seq ?_
    refine W.drawM (_) (by kernel_rfl) (fun j => [6, 7, 11].contains j) M Sel.refl ?_
    clear M; intro M
    apply DG.pure_ [0, 1] 12 rfl (by kernel_rfl) (by kernel_rfl)
    · intro w
      refine WL.move rfl rfl ?_
      refine WL.lss rfl rfl rfl ?_
      exact Chain.end_ rfl
    refine DG.knowP (t := 70) rfl (fun c6 => ?_) (fun c6 => ?_)
    · have hp0 : ¬ p < cs.length := atI_no (by omega)
      apply DG.pure_ [2, 3, 4, 5, 8, 9, 10] 5 rfl (by kernel_rfl) (by kernel_rfl)
      · intro w
        refine WL.move rfl rfl ?_
        refine WL.on rfl rfl ?_
        refine WL.move rfl rfl ?_
        refine WL.on rfl rfl ?_
        refine WL.nilCheck rfl rfl ?_
        refine WL.on rfl rfl ?_
        refine WL.fieldR (off := 1) Try.underlying65 rfl rfl Try.sizeOf41 rfl rfl rfl ?_
        refine WL.on rfl rfl ?_
        refine WL.move rfl rfl ?_
        refine WL.on rfl rfl ?_
        refine WL.nilCheck rfl rfl ?_
        refine WL.on rfl rfl ?_
        refine WL.fieldR (off := 0) Try.underlying65 rfl rfl Try.sizeOf3 rfl rfl rfl ?_
        exact Chain.end_ rfl
      apply DG.take [6, 7, 11, 12, 13] 0 rfl (by kernel_rfl) (by kernel_rfl) (M.sel (by first | ((repeat (first | with_reducible exact Sel.refl | with_reducible exact Sel.nil | with_reducible exact Del.here | with_reducible apply Del.there | with_reducible apply Sel.cons | with_reducible apply Sel.drop)); done) | (repeat (first | exact Sel.refl | exact Sel.nil | exact Del.here | apply Del.there | apply Sel.cons | apply Sel.drop))))
      · intro w M
        refine WL.on rfl rfl ?_
        refine WL.loadR Try.isAgg41 rfl M (by first | ((repeat (first | with_reducible exact Has.here | with_reducible refine Has.there ?_)); done) | (repeat (first | exact Has.here | refine Has.there ?_))) rfl rfl ?_
        refine WL.on rfl rfl ?_
        refine WL.len Try.underlying41 rfl rfl ?_
        refine WL.on rfl rfl ?_
        refine WL.loadR Try.isAgg3 rfl M (by first | ((repeat (first | with_reducible exact Has.here | with_reducible refine Has.there ?_)); done) | (repeat (first | exact Has.here | refine Has.there ?_))) rfl rfl ?_
        refine WL.on rfl rfl ?_
        refine WL.eqI rfl rfl rfl ?_
        refine WL.pickT rfl rfl rfl ?_
        exact Chain.end_ rfl
      refine DG.end_ (by kernel_rfl) ?_
      refine WX.next ?_
      refine W.sub [(0, _), (1, _), (2, _), (9, _), (82, _)] (.cons rfl (.cons rfl (.cons rfl (.cons rfl (.cons rfl .nil))))) ?_
      refine W.ite rfl (fun c7 => ?_) (fun c7 => ?_)
      · refine W.joint (fun (_ : Unit) => [(0, .pointer (some ⟨g, 0, none⟩)), (1, .int .u64 (id : Int)), (2, .int .u64 (num : Int)), (9, .int .i64 (freeN cs : Int))]) (fun j w => Mem w0 w ((fun _ => Asr.row g 65 [.int .i64 (most : Int), .slice A cs.length cap, .int .i64 (begun : Int), .int .i64 (was : Int)] :: Asr.lst clientE A cap cs :: Asr.star (cs.map ClX.O) :: L) j) ∧ (fun _ => True) j) ?_ ?_
        · refine W.seq ?_
          refine W.region ?_
          refine WL.assign rfl rfl ?_
          refine WL.nil ?_
          refine WX.next ?_
          refine W.sub [(0, _), (1, _), (2, _), (9, _)] (.cons rfl (.cons rfl (.cons rfl (.cons rfl .nil)))) ?_
          refine W.block ?_
          refine W.loop (ι := Nat) (fun j => [(0, .pointer (some ⟨g, 0, none⟩)), (1, .int .u64 (id : Int)), (2, .int .u64 (num : Int)), (9, .int .i64 (j : Int))]) (fun zz w => Mem w0 w ((fun _ => Asr.row g 65 [.int .i64 (most : Int), .slice A cs.length cap, .int .i64 (begun : Int), .int .i64 (was : Int)] :: Asr.lst clientE A cap cs :: Asr.star (cs.map ClX.O) :: L) zz) ∧ (fun j => j ≤ cs.length ∧ ∀ i, i < j → (!(el cs i).busy) = false) zz) (fun j => cs.length - j) (0) (by (repeat' (first | exact envSub.nil | refine envSub.cons ?_ ?_)) <;> first | rfl | (refine congrArg some ?_; refine congrArg (Value.int _) ?_; first | omega | (dsimp only; omega)) | (simp; done) | (refine congrArg some ?_; dsimp only; congr 1; omega) | (simp; omega)) ⟨M.sel (by first | ((repeat (first | with_reducible exact Sel.refl | with_reducible exact Sel.nil | with_reducible exact Del.here | with_reducible apply Del.there | with_reducible apply Sel.cons | with_reducible apply Sel.drop)); done) | (repeat (first | exact Sel.refl | exact Sel.nil | exact Del.here | apply Del.there | apply Sel.cons | apply Sel.drop))), ⟨Nat.zero_le _, fun i hi => absurd hi (by omega)⟩⟩ ?_
          clear M; rintro (j) w ⟨M, ⟨hj, hs⟩⟩; dsimp only at M hj hs ⊢
          refine W.sub [(0, _), (1, _), (2, _), (9, _)] (.cons rfl (.cons rfl (.cons rfl (.cons rfl .nil)))) ?_
          refine W.seq ?_
          refine W.seq ?_
          refine W.region ?_
          refine WL.move rfl rfl ?_
          refine WL.move rfl rfl ?_
          refine WL.nilCheck rfl rfl ?_
          refine WL.fieldR (off := 1) Try.underlying65 rfl rfl Try.sizeOf41 rfl rfl rfl ?_
          refine WL.loadR Try.isAgg41 rfl M (by first | ((repeat (first | with_reducible exact Has.here | with_reducible refine Has.there ?_)); done) | (repeat (first | exact Has.here | refine Has.there ?_))) rfl rfl ?_
          refine WL.len Try.underlying41 rfl rfl ?_
          refine WL.lss rfl rfl rfl ?_
          refine WL.moveIf rfl rfl (fun c8 => ?_) (fun c8 => ?_)
          · refine WL.on rfl rfl ?_
            refine WL.move rfl rfl ?_
            refine WL.on rfl rfl ?_
            refine WL.nilCheck rfl rfl ?_
            refine WL.on rfl rfl ?_
            refine WL.fieldR (off := 1) Try.underlying65 rfl rfl Try.sizeOf41 rfl rfl rfl ?_
            refine WL.on rfl rfl ?_
            refine WL.loadR Try.isAgg41 rfl M (by first | ((repeat (first | with_reducible exact Has.here | with_reducible refine Has.there ?_)); done) | (repeat (first | exact Has.here | refine Has.there ?_))) rfl rfl ?_
            refine WL.on rfl rfl ?_
            refine WL.move rfl rfl ?_
            refine WL.on rfl rfl ?_
            refine WL.idxA Try.underlying41 Try.sizeOf45 rfl rfl (RdL.isSome (E := clientE) (by first | with_reducible assumption | with_reducible exact RdL.mem (by with_reducible assumption) M | exact M.rdL (by first | ((repeat (first | with_reducible exact Has.here | with_reducible refine Has.there ?_)); done) | (repeat (first | exact Has.here | refine Has.there ?_))) | exact RdLH.at (by assumption) (M.sel (by first | ((repeat (first | with_reducible exact Sel.refl | with_reducible exact Sel.nil | with_reducible exact Del.here | with_reducible apply Del.there | with_reducible apply Sel.cons | with_reducible apply Sel.drop)); done) | (repeat (first | exact Sel.refl | exact Sel.nil | exact Del.here | apply Del.there | apply Sel.cons | apply Sel.drop)))) | exact RdL.nil _ _ _) (by omega)) (by omega) (by omega) (by first | exact rfl | exact (Int.toNat_of_nonneg (by omega)).symm) rfl ?_
            refine WL.on rfl rfl ?_
            refine WL.fieldA (off := 2) Try.underlying45 rfl rfl Try.sizeOf4 rfl rfl rfl ?_
            refine WL.on rfl rfl ?_
            refine WL.loadE (E := clientE) Try.isAgg4 rfl (by first | with_reducible assumption | with_reducible exact RdL.mem (by with_reducible assumption) M | exact M.rdL (by first | ((repeat (first | with_reducible exact Has.here | with_reducible refine Has.there ?_)); done) | (repeat (first | exact Has.here | refine Has.there ?_))) | exact RdLH.at (by assumption) (M.sel (by first | ((repeat (first | with_reducible exact Sel.refl | with_reducible exact Sel.nil | with_reducible exact Del.here | with_reducible apply Del.there | with_reducible apply Sel.cons | with_reducible apply Sel.drop)); done) | (repeat (first | exact Sel.refl | exact Sel.nil | exact Del.here | apply Del.there | apply Sel.cons | apply Sel.drop)))) | exact RdL.nil _ _ _) (by omega) rfl rfl ?_
            refine WL.pickT rfl rfl rfl ?_
            refine WL.nil ?_
            refine WX.next ?_
            refine W.sub [(0, _), (1, _), (2, _), (9, _), (99, _)] (.cons rfl (.cons rfl (.cons rfl (.cons rfl (.cons rfl .nil))))) ?_
            refine W.cond rfl (fun c9 => ?_) (fun c9 => ?_)
            · (try simp only [Bool.not_eq_true'] at c9); (try simp only [Bool.not_eq_false'] at c9); (try simp only [decide_eq_true_eq] at c9); (try simp only [decide_eq_false_iff_not] at c9)
              refine W.skip ?_
              refine WX.next ?_
              refine W.block ?_
              refine W.region ?_
              refine WL.move rfl rfl ?_
              refine WL.add rfl rfl (by first | exact wI64 (by omega) | rfl) rfl ?_
              refine WL.assign rfl rfl ?_
              refine WL.nil ?_
              refine WX.blockNormal ?_
              skip
              have q : ∀ i, i < j + 1 → (!(el cs i).busy) = false := by
                intro i hi
                rcases Nat.lt_or_ge i j with h1 | h1
                · exact hs i h1
                · obtain rfl : i = j := by omega
                  simpa using c9
              refine WX.round (j + 1) (by (repeat' (first | exact envSub.nil | refine envSub.cons ?_ ?_)) <;> first | rfl | (refine congrArg some ?_; refine congrArg (Value.int _) ?_; first | omega | (dsimp only; omega)) | (simp; done) | (refine congrArg some ?_; dsimp only; congr 1; omega) | (simp; omega)) ⟨M.sel (by first | ((repeat (first | with_reducible exact Sel.refl | with_reducible exact Sel.nil | with_reducible exact Del.here | with_reducible apply Del.there | with_reducible apply Sel.cons | with_reducible apply Sel.drop)); done) | (repeat (first | exact Sel.refl | exact Sel.nil | exact Del.here | apply Del.there | apply Sel.cons | apply Sel.drop))), ⟨by omega, q⟩⟩ (by first | omega | (dsimp only; omega))
            · (try simp only [Bool.not_eq_true'] at c9); (try simp only [Bool.not_eq_false'] at c9); (try simp only [decide_eq_true_eq] at c9); (try simp only [decide_eq_false_iff_not] at c9)
              refine W.exit ?_
              refine WX.thenExit ?_
              refine WX.thenExit ?_
              refine WX.blockHere ?_
              have e : freeN cs = j := findIdx_of (by omega) (by simpa using c9) hs
              refine WX.join (()) (by rw [e]; exact envSub.cons rfl (envSub.cons rfl (envSub.cons rfl (envSub.cons rfl envSub.nil)))) ⟨M.sel (by first | ((repeat (first | with_reducible exact Sel.refl | with_reducible exact Sel.nil | with_reducible exact Del.here | with_reducible apply Del.there | with_reducible apply Sel.cons | with_reducible apply Sel.drop)); done) | (repeat (first | exact Sel.refl | exact Sel.nil | exact Del.here | apply Del.there | apply Sel.cons | apply Sel.drop))), trivial⟩
          · refine WL.off rfl rfl rfl rfl ?_
            refine WL.off rfl rfl rfl rfl ?_
            refine WL.off rfl rfl rfl rfl ?_
            refine WL.off rfl rfl rfl rfl ?_
            refine WL.off rfl rfl rfl rfl ?_
            refine WL.off rfl rfl rfl rfl ?_
            refine WL.off rfl rfl rfl rfl ?_
            refine WL.off rfl rfl rfl rfl ?_
            refine WL.pickF rfl rfl rfl ?_
            refine WL.nil ?_
            refine WX.next ?_
            refine W.sub [(0, _), (1, _), (2, _), (9, _), (99, _)] (.cons rfl (.cons rfl (.cons rfl (.cons rfl (.cons rfl .nil))))) ?_
            refine W.condF rfl ?_
            refine W.exit ?_
            refine WX.thenExit ?_
            refine WX.thenExit ?_
            refine WX.blockHere ?_
            obtain rfl : j = cs.length := by omega
            have e : freeN cs = cs.length := findIdx_no hs
            refine WX.join (()) (by rw [e]; exact envSub.cons rfl (envSub.cons rfl (envSub.cons rfl (envSub.cons rfl envSub.nil)))) ⟨M.sel (by first | ((repeat (first | with_reducible exact Sel.refl | with_reducible exact Sel.nil | with_reducible exact Del.here | with_reducible apply Del.there | with_reducible apply Sel.cons | with_reducible apply Sel.drop)); done) | (repeat (first | exact Sel.refl | exact Sel.nil | exact Del.here | apply Del.there | apply Sel.cons | apply Sel.drop))), trivial⟩
        clear M; rintro (⟨⟩) w ⟨M, -⟩; dsimp only at M ⊢
        refine W.sub [(0, _), (1, _), (2, _), (9, _)] (.cons rfl (.cons rfl (.cons rfl (.cons rfl .nil)))) ?_
        refine W.seq ?_
        refine W.region ?_
        refine WL.move rfl rfl ?_
        refine WL.move rfl rfl ?_
        refine WL.nilCheck rfl rfl ?_
        refine WL.fieldR (off := 1) Try.underlying65 rfl rfl Try.sizeOf41 rfl rfl rfl ?_
        refine WL.loadR Try.isAgg41 rfl M (by first | ((repeat (first | with_reducible exact Has.here | with_reducible refine Has.there ?_)); done) | (repeat (first | exact Has.here | refine Has.there ?_))) rfl rfl ?_
        refine WL.len Try.underlying41 rfl rfl ?_
        refine WL.eqI rfl rfl rfl ?_
        refine WL.nil ?_
        refine WX.next ?_
        refine W.sub [(0, _), (1, _), (2, _), (9, _), (108, _)] (.cons rfl (.cons rfl (.cons rfl (.cons rfl (.cons rfl .nil))))) ?_
        refine W.ite rfl (fun c10 => ?_) (fun c10 => ?_)
        · refine W.seq ?_
          refine W.region ?_
          refine WL.assign rfl rfl ?_
          refine WL.assign rfl rfl ?_
          refine WL.assign rfl rfl ?_
          refine WL.nil ?_
          refine WX.next ?_
          refine W.sub [(6, _), (7, _), (8, _)] (.cons rfl (.cons rfl (.cons rfl .nil))) ?_
          refine W.ret ?_
          refine WX.thenRet ?_
          refine WX.ret3 rfl rfl rfl rfl ?_
          have e1 := begK_4 (t := T) (id := id) (num := num) (by omega) (by omega) (by omega) (by omega)
          exact same 0 130 (by unfold begA; rw [e1]; rfl) (by unfold begE; rw [e1]; rfl) (by unfold begR; rw [e1]; rfl) (by unfold begS; rw [e1]; rfl) _ (M.sel (by first | ((repeat (first | with_reducible exact Sel.refl | with_reducible exact Sel.nil | with_reducible exact Del.here | with_reducible apply Del.there | with_reducible apply Sel.cons | with_reducible apply Sel.drop)); done) | (repeat (first | exact Sel.refl | exact Sel.nil | exact Del.here | apply Del.there | apply Sel.cons | apply Sel.drop))))
        · refine W.skip ?_
          have hfi := atI_in (n := cs.length) (p := freeN cs) (by omega)
          refine WX.join (freeN cs) (by rw [hfi]; exact envSub.cons rfl (envSub.cons rfl (envSub.cons rfl (envSub.cons rfl envSub.nil)))) ⟨M.sel (by first | ((repeat (first | with_reducible exact Sel.refl | with_reducible exact Sel.nil | with_reducible exact Del.here | with_reducible apply Del.there | with_reducible apply Sel.cons | with_reducible apply Sel.drop)); done) | (repeat (first | exact Sel.refl | exact Sel.nil | exact Del.here | apply Del.there | apply Sel.cons | apply Sel.drop))), ⟨hfle, (by unfold begQ; rw [if_neg (by omega), if_pos (by omega), hTf]), begK_5 (by omega) (fun h => hp0 (by omega)) (by omega)⟩⟩
      · refine W.skip ?_
        refine WX.join (p) (by (repeat' (first | exact envSub.nil | refine envSub.cons ?_ ?_)) <;> first | rfl | (refine congrArg some ?_; refine congrArg (Value.int _) ?_; first | omega | (dsimp only; omega)) | (simp; done) | (refine congrArg some ?_; dsimp only; congr 1; omega) | (simp; omega)) ⟨M.sel (by first | ((repeat (first | with_reducible exact Sel.refl | with_reducible exact Sel.nil | with_reducible exact Del.here | with_reducible apply Del.there | with_reducible apply Sel.cons | with_reducible apply Sel.drop)); done) | (repeat (first | exact Sel.refl | exact Sel.nil | exact Del.here | apply Del.there | apply Sel.cons | apply Sel.drop))), ⟨hple, (by unfold begQ; rw [if_neg (by omega), if_neg (by omega)]; omega), begK_5 (by omega) (fun h => hp0 (by omega)) (by omega)⟩⟩
    · have hp1 : p < cs.length := atI_ge (by omega)
      apply DG.pure_ [2, 3, 4, 5, 8, 9, 10] 5 rfl (by kernel_rfl) (by kernel_rfl)
      · intro w
        refine WL.move rfl rfl ?_
        refine WL.off rfl rfl rfl rfl ?_
        refine WL.off rfl rfl rfl rfl ?_
        refine WL.off rfl rfl rfl rfl ?_
        refine WL.off rfl rfl rfl rfl ?_
        refine WL.off rfl rfl rfl rfl ?_
        refine WL.off rfl rfl rfl rfl ?_
        exact Chain.end_ rfl
      apply DG.take [6, 7, 11, 12, 13] 0 rfl (by kernel_rfl) (by kernel_rfl) (M.sel (by first | ((repeat (first | with_reducible exact Sel.refl | with_reducible exact Sel.nil | with_reducible exact Del.here | with_reducible apply Del.there | with_reducible apply Sel.cons | with_reducible apply Sel.drop)); done) | (repeat (first | exact Sel.refl | exact Sel.nil | exact Del.here | apply Del.there | apply Sel.cons | apply Sel.drop))))
      · intro w M
        refine WL.off rfl rfl rfl rfl ?_
        refine WL.off rfl rfl rfl rfl ?_
        refine WL.off rfl rfl rfl rfl ?_
        refine WL.off rfl rfl rfl rfl ?_
        refine WL.pickF rfl rfl rfl ?_
        exact Chain.end_ rfl
      refine DG.end_ (by kernel_rfl) ?_
      refine WX.next ?_
      refine W.sub [(0, _), (1, _), (2, _), (9, _), (82, _)] (.cons rfl (.cons rfl (.cons rfl (.cons rfl (.cons rfl .nil))))) ?_
      refine W.condF rfl ?_
      refine W.skip ?_
      have hno2 : ¬ num ≤ (el T.l (posN T.l id)).num := by rw [hTp, hTe p hp1]; exact fun h => hno ⟨hp1, h⟩
      refine WX.join (p) (by (repeat' (first | exact envSub.nil | refine envSub.cons ?_ ?_)) <;> first | rfl | (refine congrArg some ?_; refine congrArg (Value.int _) ?_; first | omega | (dsimp only; omega)) | (simp; done) | (refine congrArg some ?_; dsimp only; congr 1; omega) | (simp; omega)) ⟨M.sel (by first | ((repeat (first | with_reducible exact Sel.refl | with_reducible exact Sel.nil | with_reducible exact Del.here | with_reducible apply Del.there | with_reducible apply Sel.cons | with_reducible apply Sel.drop)); done) | (repeat (first | exact Sel.refl | exact Sel.nil | exact Del.here | apply Del.there | apply Sel.cons | apply Sel.drop))), ⟨hple, (by unfold begQ; rw [if_pos (by omega), hTp]), begK_5 (by omega) (fun h => hno2 h.2) (by omega)⟩⟩
  clear M; rintro (q) w ⟨M, ⟨hql, hq, hk5⟩⟩; dsimp only at M hql hq hk5 ⊢
  refine W.sub [(0, _), (1, _), (2, _), (9, _)] (.cons rfl (.cons rfl (.cons rfl (.cons rfl .nil)))) ?_
  unfold RT.L RT.row at M
  simp only [List.cons_append, List.nil_append] at M
  (try dsimp only at M)
  refine W.seq ?_
  refine W.region ?_
  refine WL.move rfl rfl ?_
  refine WL.move rfl rfl ?_
  refine WL.move rfl rfl ?_
  refine WL.move rfl rfl ?_
  refine WL.buildP (places := #[(0, 1), (1, 1), (2, 1), (3, 1)]) Try.underlying45 Try.zeroValue45 (fun _ => by simp [Try.sizeOf29, Try.sizeOf29, Try.sizeOf4, Try.sizeOf32]) rfl (by repeat (first | exact Puts.nil | exact SetAt.zero | apply SetAt.succ | apply Puts.cons rfl rfl)) rfl ?_
  refine WL.call Try.call44 rfl (last_ok g (.int .i64 (most : Int)) A cap cs _ _ q hql (by omega) (reqX id num) w0 w _ M) rfl ?_
  rintro _ w ⟨rfl, A2, cap2, M⟩
  refine WL.nil ?_
  refine WX.next ?_
  refine W.sub [(0, _)] (.cons rfl .nil) ?_
  refine W.seq ?_
  refine W.region ?_
  refine WL.move rfl rfl ?_
  refine WL.nilCheck rfl rfl ?_
  refine WL.fieldR (off := 2) Try.underlying65 rfl rfl Try.sizeOf3 rfl rfl rfl ?_
  refine WL.loadR Try.isAgg3 rfl M (by first | ((repeat (first | with_reducible exact Has.here | with_reducible refine Has.there ?_)); done) | (repeat (first | exact Has.here | refine Has.there ?_))) rfl rfl ?_
  refine WL.add rfl rfl (by first | exact wI64 (by omega) | rfl) rfl ?_
  refine WL.nilCheck rfl rfl ?_
  refine WL.fieldR (off := 2) Try.underlying65 rfl rfl Try.sizeOf3 rfl rfl rfl ?_
  refine WL.storeR Try.sizeOf3 rfl rfl rfl M (by first | ((repeat (first | with_reducible exact Has.here | with_reducible refine Has.there ?_)); done) | (repeat (first | exact Has.here | refine Has.there ?_))) (by repeat (first | exact SetAt.zero | apply SetAt.succ)) (by first | ((repeat (first | with_reducible exact Upd.here | with_reducible apply Upd.there)); done) | (repeat (first | exact Upd.here | apply Upd.there))) ?_
  intro w M
  refine WL.nil ?_
  refine WX.next ?_
  refine W.sub [] .nil ?_
  refine W.seq ?_
  refine W.region ?_
  refine WL.assign rfl rfl ?_
  refine WL.assign rfl rfl ?_
  refine WL.assign rfl rfl ?_
  refine WL.nil ?_
  refine WX.next ?_
  refine W.sub [(6, _), (7, _), (8, _)] (.cons rfl (.cons rfl (.cons rfl .nil))) ?_
  refine W.ret ?_
  refine WX.ret3 rfl rfl rfl rfl ?_
  have e2 : begS T id num = ⟨most, (cs.eraseIdx q ++ [(reqX id num)]).map ClX.key, begun + 1, was⟩ := by
    unfold begS
    rw [if_neg (by omega), if_neg (by omega), if_pos hk5, ← hq, hTm, hTb, hTw, hTL, List.map_append, map_eraseIdx']
    rfl
  have er : begR T id num = [] := by unfold begR; rw [if_neg (by omega)]
  have M5 := Mem.starErase (M.sel (K := Asr.star (cs.map ClX.O) :: Asr.row g 65 [.int .i64 (most : Int), .slice A2 (cs.eraseIdx q ++ [(reqX id num)]).length cap2, .int .i64 ((begun : Int) + 1), .int .i64 (was : Int)] :: Asr.lst clientE A2 cap2 (cs.eraseIdx q ++ [(reqX id num)]) :: L) (by first | ((repeat (first | with_reducible exact Sel.refl | with_reducible exact Sel.nil | with_reducible exact Del.here | with_reducible apply Del.there | with_reducible apply Sel.cons | with_reducible apply Sel.drop)); done) | (repeat (first | exact Sel.refl | exact Sel.nil | exact Del.here | apply Del.there | apply Sel.cons | apply Sel.drop)))) q
  have M6 := Mem.starSnoc (A := (reqX id num).O) (Mem.nilOwn M5 5 1)
  rw [show (cs.eraseIdx q).map ClX.O ++ [(reqX id num).O] = (cs.eraseIdx q ++ [reqX id num]).map ClX.O by rw [List.map_append]; rfl] at M6
  refine ⟨⟨g, most, A2, cap2, cs.eraseIdx q ++ [(reqX id num)], begun + 1, was⟩, none, 0, ?_, rfl, e2.symm, ?_, by rw [er]; exact RdB.nil _ _⟩
  · rw [er]; unfold begA begE; rw [hk5]; rfl
  · unfold RT.L RT.row
    exact M6.sel (by first | ((repeat (first | with_reducible exact Sel.refl | with_reducible exact Sel.nil | with_reducible exact Del.here | with_reducible apply Del.there | with_reducible apply Sel.cons | with_reducible apply Sel.drop)); done) | (repeat (first | exact Sel.refl | exact Sel.nil | exact Del.here | apply Del.there | apply Sel.cons | apply Sel.drop)))
end Go.Proofs.Ytmogpoghngmnmaa
