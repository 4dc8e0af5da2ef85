/-
  Walks: Begin (once).
-/
import Derived.Test.YtmogpoghngmnmaaOnce3
namespace Go.Proofs.Ytmogpoghngmnmaa
open Go Go.RowKit

theorem begK_0 {t : Tb} {id num : Nat} (h : num = 0) : begK t id num = 0 := by unfold begK; rw [if_pos h]
theorem begK_1 {t : Tb} {id num : Nat} (h0 : num ≠ 0) (h1 : posN t.l id < t.l.length) (h2 : num < (el t.l (posN t.l id)).num) : begK t id num = 1 := by unfold begK; rw [if_neg h0, if_pos ⟨h1, by omega⟩, if_pos h2]
theorem begK_2 {t : Tb} {id num : Nat} (h0 : num ≠ 0) (h1 : posN t.l id < t.l.length) (h2 : num = (el t.l (posN t.l id)).num) (h3 : (el t.l (posN t.l id)).busy = true) : begK t id num = 2 := by unfold begK; rw [if_neg h0, if_pos ⟨h1, by omega⟩, if_neg (by omega), if_pos h3]
theorem begK_3 {t : Tb} {id num : Nat} (h0 : num ≠ 0) (h1 : posN t.l id < t.l.length) (h2 : num = (el t.l (posN t.l id)).num) (h3 : (el t.l (posN t.l id)).busy = false) : begK t id num = 3 := by unfold begK; rw [if_neg h0, if_pos ⟨h1, by omega⟩, if_neg (by omega), if_neg (by rw [h3]; decide)]
theorem begK_4 {t : Tb} {id num : Nat} (h0 : num ≠ 0) (h1 : ¬ posN t.l id < t.l.length) (h2 : t.most ≤ t.l.length) (h3 : ¬ freeL t.l < t.l.length) : begK t id num = 4 := by unfold begK; rw [if_neg h0, if_neg (fun h => h1 h.1), if_pos ⟨h1, h2, h3⟩]
theorem begK_5 {t : Tb} {id num : Nat} (h0 : num ≠ 0) (h1 : ¬ (posN t.l id < t.l.length ∧ num ≤ (el t.l (posN t.l id)).num)) (h3 : ¬ (¬ posN t.l id < t.l.length ∧ t.most ≤ t.l.length ∧ ¬ freeL t.l < t.l.length)) : begK t id num = 5 := by unfold begK; rw [if_neg h0, if_neg h1, if_neg h3]

/-- A client whose request is under way. -/
def reqX (id num : Nat) : ClX := ⟨id, num, true, none, 0, []⟩
def BegAns (t : Tb) (id num : Nat) (g : Nat) (w0 : World) (L : List Asr) (v : Value) (w' : World) : Prop :=
  ∃ (x' : OT) (A' : Option Addr) (cap' : Nat), v = .tuple #[.int .i64 (begA t id num), .slice A' (begR t id num).length cap', .int .i64 (begE t id num)] ∧ g = x'.g ∧ x'.s = begS t id num ∧ x'.ok ∧
    Mem w0 w' (Asr.own 5 1 A' (begR t id num).length cap' (bs (begR t id num)) :: (x'.L ++ L))

set_option maxRecDepth 10000 in
set_option maxHeartbeats 1000000 in
theorem Begin_ok (x : OT) (hok : x.ok) (hb : x.begun < 4611686018427387904 ∧ x.was < 4611686018427387904) (id num : Nat) (hid : id < 18446744073709551616) (hnum : num < 18446744073709551616) (w0 w : World) (L : List Asr) (M : Mem w0 w (x.L ++ L)) :
    Fn Try.prog 12 [.pointer (some ⟨x.g, 0, none⟩), .int .u64 (id : Int), .int .u64 (num : Int)] w (BegAns x.s id num x.g w0 L) := by
  have hS := begS_ok hok.s hid hnum
  have hlen := hok.s.len
  have hmost := hok.s.most
  have heach := hok.s.each
  have hU := uniq_of hok.s.nodup
  have M0 := M
  obtain ⟨T, hT⟩ : ∃ T, T = x.s := ⟨_, rfl⟩
  rw [← hT] at hS ⊢
  have hTp : posN T.l id = posC x.cs id := by rw [hT, posC_key]; rfl
  have hTf : freeL T.l = freeN x.cs := by rw [hT, freeN_key]; rfl
  have hTl : T.l.length = x.cs.length := by rw [hT]; exact List.length_map ..
  have hTe : ∀ k, k < x.cs.length → el T.l k = (el x.cs k).key := fun k hk => by rw [hT]; exact el_map _ _ _ hk
  have hTm : T.most = x.most := by rw [hT]; rfl
  have hTb : T.begun = x.begun := by rw [hT]; rfl
  have hTw : T.was = x.was := by rw [hT]; rfl
  have hTL : T.l = x.cs.map ClX.key := by rw [hT]; rfl
  have hple : posC x.cs id ≤ x.cs.length := by rw [posC_key]; simpa using pos_le (x.cs.map ClX.key) id
  have hm := hok.made
  have hrep : ∀ k, k < x.cs.length → (el x.cs k).rep.length ≤ 200 := fun k hk => (hok.s.each _ (List.mem_map.2 ⟨_, el_mem hk, rfl⟩)).rep
  have hfle : freeN x.cs ≤ x.cs.length := List.findIdx_le_length
  rw [show x.s.l.length = x.cs.length from List.length_map ..] at hlen
  rw [show x.s.most = x.most from rfl] at hlen hmost
  have same : ∀ (a e : Int) (x' : OT), x.g = x'.g → x'.s = T → x'.ok → a = begA T id num → e = begE T id num → begR T id num = [] → begS T id num = T → ∀ w', Mem w0 w' (x'.L ++ L) → BegAns T id num x.g w0 L (.tuple #[.int .i64 a, .slice none 0 0, .int .i64 e]) w' := by
    rintro a e x' hg hs ho rfl rfl hr hs2 w' M'
    refine ⟨x', none, 0, by rw [hr]; rfl, hg, by rw [hs2, hs], ho, ?_⟩
    rw [hr]
    exact M'.nilOwn _ _
  obtain ⟨g, most, A, cap, cs, gi, made, begun, was⟩ := x
  dsimp only at *
  obtain ⟨p, hp⟩ : ∃ p, p = posC cs id := ⟨_, rfl⟩
  rw [← hp] at hTp hple
  refine Fn.enter Try.func12 rfl Try.ntmps12 rfl ?_
  refine W.sub [(0, _), (1, _), (2, _)] (.cons rfl (.cons rfl (.cons rfl .nil))) ?_
  refine W.seq ?_
  refine W.region ?_
  refine WL.assign rfl rfl ?_
  refine WL.assign rfl rfl ?_
  refine WL.assign rfl rfl ?_
  refine WL.nil ?_
  refine WX.next ?_
  refine W.sub [(0, _), (1, _), (2, _)] (.cons rfl (.cons rfl (.cons rfl .nil))) ?_
  refine W.seq ?_
  refine W.block ?_
  refine W.seq ?_
  refine W.region ?_
  refine WL.move rfl rfl ?_
  refine WL.eqNilF Try.underlying25 rfl rfl rfl ?_
  refine WL.assign rfl rfl ?_
  refine WL.nil ?_
  refine WX.next ?_
  refine W.sub [(0, _), (1, _), (2, _), (11, _)] (.cons rfl (.cons rfl (.cons rfl (.cons rfl .nil)))) ?_
  refine W.condF rfl ?_
  refine W.seq ?_
  refine W.region ?_
  refine WL.move rfl rfl ?_
  refine WL.eqI rfl rfl rfl ?_
  refine WL.assign rfl rfl ?_
  refine WL.nil ?_
  refine WX.next ?_
  refine W.sub [(0, _), (1, _), (2, _), (14, _)] (.cons rfl (.cons rfl (.cons rfl (.cons rfl .nil)))) ?_
  refine W.ite rfl (fun c1 => ?_) (fun c1 => ?_)
  · refine W.seq ?_
    refine W.region ?_
    refine WL.assign rfl rfl ?_
    refine WL.assign rfl rfl ?_
    refine WL.assign rfl rfl ?_
    refine WL.nil ?_
    refine WX.next ?_
    refine W.sub [(6, _), (7, _), (8, _)] (.cons rfl (.cons rfl (.cons rfl .nil))) ?_
    refine W.ret ?_
    refine WX.blockRet ?_
    refine WX.thenRet ?_
    refine WX.ret3 rfl rfl rfl rfl ?_
    have hk := begK_0 (t := T) (id := id) (num := num) (by omega)
    exact same 0 2 _ rfl hT.symm hok (by unfold begA; rw [hk]; rfl) (by unfold begE; rw [hk]; rfl) (by unfold begR; rw [hk]; rfl) (by unfold begS; rw [hk]; rfl) _ M0
  · refine W.skip ?_
    refine WX.blockNormal ?_
    refine WX.next ?_
    refine W.seq ?_
    refine W.region ?_
    refine WL.move rfl rfl ?_
    refine WL.move rfl rfl ?_
    refine WL.call Try.call30 rfl (find_ok ⟨g, most, A, cap, cs, gi, made, begun, was⟩ (by dsimp only; omega) hU hm id w0 w L M0) rfl ?_
    rintro _ w ⟨rfl, ⟨pm, hpm⟩, M⟩
    rw [← hp]
    dsimp only
    have M1 := M
    unfold OT.L OT.row at M
    simp only [List.cons_append, List.nil_append] at M
    (try dsimp only at M)
    refine WL.assign rfl rfl ?_
    refine WL.nil ?_
    refine WX.next ?_
    refine W.sub [(0, _), (1, _), (2, _), (9, _)] (.cons rfl (.cons rfl (.cons rfl (.cons rfl .nil)))) ?_
    refine W.joint (fun (_ : Unit) => [(0, .pointer (some ⟨g, 0, none⟩)), (1, .int .u64 (id : Int)), (2, .int .u64 (num : Int)), (9, .int .i64 (atI cs.length p))]) (fun j w => Mem w0 w ((fun _ => OT.L ⟨g, most, A, cap, cs, gi, some pm, begun, was⟩ ++ L) j) ∧ (fun _ => ¬ (p < cs.length ∧ num ≤ (el cs p).num)) j) ?_ ?_
    · refine W.seq ?_
      refine W.region ?_
      refine WL.move rfl rfl ?_
      refine WL.geq rfl rfl rfl ?_
      refine WL.moveIf rfl rfl (fun c2 => ?_) (fun c2 => ?_)
      · have hat : p < cs.length := by
          apply Classical.byContradiction
          intro h
          rw [atI_out h] at c2
          omega
        have hai := atI_in hat
        refine WL.on rfl rfl ?_
        refine WL.move rfl rfl ?_
        refine WL.on rfl rfl ?_
        refine WL.nilCheck rfl rfl ?_
        refine WL.on rfl rfl ?_
        refine WL.fieldR (off := 1) Try.underlying88 rfl rfl Try.sizeOf41 rfl rfl rfl ?_
        refine WL.on rfl rfl ?_
        refine WL.loadR Try.isAgg41 rfl M (by first | ((repeat (first | with_reducible exact Has.here | with_reducible refine Has.there ?_)); done) | (repeat (first | exact Has.here | refine Has.there ?_))) rfl rfl ?_
        refine WL.on rfl rfl ?_
        refine WL.move rfl rfl ?_
        refine WL.on rfl rfl ?_
        refine WL.idxA Try.underlying41 Try.sizeOf45 rfl rfl (RdL.isSome (E := clientE) (by first | with_reducible assumption | with_reducible exact RdL.mem (by with_reducible assumption) M | exact M.rdL (by first | ((repeat (first | with_reducible exact Has.here | with_reducible refine Has.there ?_)); done) | (repeat (first | exact Has.here | refine Has.there ?_))) | exact RdLH.at (by assumption) (M.sel (by first | ((repeat (first | with_reducible exact Sel.refl | with_reducible exact Sel.nil | with_reducible exact Del.here | with_reducible apply Del.there | with_reducible apply Sel.cons | with_reducible apply Sel.drop)); done) | (repeat (first | exact Sel.refl | exact Sel.nil | exact Del.here | apply Del.there | apply Sel.cons | apply Sel.drop)))) | exact RdL.nil _ _ _) (by omega)) (by omega) (by omega) hai rfl ?_
        refine WL.on rfl rfl ?_
        refine WL.fieldA (off := 1) Try.underlying45 rfl rfl Try.sizeOf29 rfl rfl rfl ?_
        refine WL.on rfl rfl ?_
        refine WL.loadE (E := clientE) Try.isAgg29 rfl (by first | with_reducible assumption | with_reducible exact RdL.mem (by with_reducible assumption) M | exact M.rdL (by first | ((repeat (first | with_reducible exact Has.here | with_reducible refine Has.there ?_)); done) | (repeat (first | exact Has.here | refine Has.there ?_))) | exact RdLH.at (by assumption) (M.sel (by first | ((repeat (first | with_reducible exact Sel.refl | with_reducible exact Sel.nil | with_reducible exact Del.here | with_reducible apply Del.there | with_reducible apply Sel.cons | with_reducible apply Sel.drop)); done) | (repeat (first | exact Sel.refl | exact Sel.nil | exact Del.here | apply Del.there | apply Sel.cons | apply Sel.drop)))) | exact RdL.nil _ _ _) (by omega) rfl rfl ?_
        refine WL.on rfl rfl ?_
        refine WL.move rfl rfl ?_
        refine WL.on rfl rfl ?_
        refine WL.geq rfl rfl rfl ?_
        refine WL.pickT rfl rfl rfl ?_
        refine WL.nil ?_
        refine WX.next ?_
        refine W.sub [(0, _), (1, _), (2, _), (9, _), (33, _)] (.cons rfl (.cons rfl (.cons rfl (.cons rfl (.cons rfl .nil))))) ?_
        refine W.ite rfl (fun c3 => ?_) (fun c3 => ?_)
        · refine W.seq ?_
          refine W.region ?_
          refine WL.move rfl rfl ?_
          refine WL.nilCheck rfl rfl ?_
          refine WL.fieldR (off := 1) Try.underlying88 rfl rfl Try.sizeOf41 rfl rfl rfl ?_
          refine WL.loadR Try.isAgg41 rfl M (by first | ((repeat (first | with_reducible exact Has.here | with_reducible refine Has.there ?_)); done) | (repeat (first | exact Has.here | refine Has.there ?_))) rfl rfl ?_
          refine WL.move rfl rfl ?_
          refine WL.idxA Try.underlying41 Try.sizeOf45 rfl rfl (RdL.isSome (E := clientE) (by first | with_reducible assumption | with_reducible exact RdL.mem (by with_reducible assumption) M | exact M.rdL (by first | ((repeat (first | with_reducible exact Has.here | with_reducible refine Has.there ?_)); done) | (repeat (first | exact Has.here | refine Has.there ?_))) | exact RdLH.at (by assumption) (M.sel (by first | ((repeat (first | with_reducible exact Sel.refl | with_reducible exact Sel.nil | with_reducible exact Del.here | with_reducible apply Del.there | with_reducible apply Sel.cons | with_reducible apply Sel.drop)); done) | (repeat (first | exact Sel.refl | exact Sel.nil | exact Del.here | apply Del.there | apply Sel.cons | apply Sel.drop)))) | exact RdL.nil _ _ _) (by omega)) (by omega) (by omega) hai rfl ?_
          refine WL.loadL (E := clientE) (cs := [_, _, _, _]) Try.isAgg45 Try.sizeOf45 rfl (by first | with_reducible assumption | with_reducible exact RdL.mem (by with_reducible assumption) M | exact M.rdL (by first | ((repeat (first | with_reducible exact Has.here | with_reducible refine Has.there ?_)); done) | (repeat (first | exact Has.here | refine Has.there ?_))) | exact RdLH.at (by assumption) (M.sel (by first | ((repeat (first | with_reducible exact Sel.refl | with_reducible exact Sel.nil | with_reducible exact Del.here | with_reducible apply Del.there | with_reducible apply Sel.cons | with_reducible apply Sel.drop)); done) | (repeat (first | exact Sel.refl | exact Sel.nil | exact Del.here | apply Del.there | apply Sel.cons | apply Sel.drop)))) | exact RdL.nil _ _ _) rfl (by omega) rfl rfl ?_
          refine WL.alloc Try.zeroValue45 M rfl ?_
          intro g7_7 w M
          try simp only [Value.cells] at M
          try simp only [List.toList_toArray] at M
          refine WL.storeWA Try.sizeOf45 rfl rfl (by repeat (first | exact oneNil | refine oneCons rfl ?_)) rfl rfl M (by first | ((repeat (first | with_reducible exact Upd.here | with_reducible apply Upd.there)); done) | (repeat (first | exact Upd.here | apply Upd.there))) ?_
          intro w M
          refine WL.nil ?_
          refine WX.next ?_
          refine W.sub [(0, _), (2, _), (9, _), (10, _)] (.cons rfl (.cons rfl (.cons rfl (.cons rfl .nil)))) ?_
          refine W.seq ?_
          refine W.seq ?_
          refine W.region ?_
          refine WL.fieldR (off := 1) Try.underlying45 rfl rfl Try.sizeOf29 rfl rfl rfl ?_
          refine WL.loadR Try.isAgg29 rfl M (by first | ((repeat (first | with_reducible exact Has.here | with_reducible refine Has.there ?_)); done) | (repeat (first | exact Has.here | refine Has.there ?_))) rfl rfl ?_
          refine WL.move rfl rfl ?_
          refine WL.gtr rfl rfl rfl ?_
          refine WL.nil ?_
          refine WX.next ?_
          refine W.sub [(0, _), (9, _), (10, _), (44, _)] (.cons rfl (.cons rfl (.cons rfl (.cons rfl .nil)))) ?_
          refine W.ite rfl (fun c4 => ?_) (fun c4 => ?_)
          · refine W.seq ?_
            refine W.region ?_
            refine WL.assign rfl rfl ?_
            refine WL.assign rfl rfl ?_
            refine WL.assign rfl rfl ?_
            refine WL.nil ?_
            refine WX.next ?_
            refine W.sub [(6, _), (7, _), (8, _)] (.cons rfl (.cons rfl (.cons rfl .nil))) ?_
            refine W.ret ?_
            refine WX.thenRet ?_
            refine WX.thenRet ?_
            refine WX.ret3 rfl rfl rfl rfl ?_
            have e1 := begK_1 (t := T) (id := id) (num := num) (by omega) (by omega) (by rw [hTp, hTe p hat]; show num < (el cs p).num; omega)
            exact same 0 70 ⟨g, most, A, cap, cs, gi, some pm, begun, was⟩ rfl hT.symm ⟨hok.s, fun q hq => by cases hq; exact hpm⟩ (by unfold begA; rw [e1]; rfl) (by unfold begE; rw [e1]; rfl) (by unfold begR; rw [e1]; rfl) (by unfold begS; rw [e1]; rfl) _ (M.sel (by first | ((repeat (first | with_reducible exact Sel.refl | with_reducible exact Sel.nil | with_reducible exact Del.here | with_reducible apply Del.there | with_reducible apply Sel.cons | with_reducible apply Sel.drop)); done) | (repeat (first | exact Sel.refl | exact Sel.nil | exact Del.here | apply Del.there | apply Sel.cons | apply Sel.drop))))
          · refine W.skip ?_
            refine WX.next ?_
            refine W.seq ?_
            refine W.region ?_
            refine WL.move rfl rfl ?_
            refine WL.move rfl rfl ?_
            refine WL.loadW Try.isAgg45 Try.sizeOf45 rfl M (by first | ((repeat (first | with_reducible exact Has.here | with_reducible refine Has.there ?_)); done) | (repeat (first | exact Has.here | refine Has.there ?_))) rfl rfl ?_
            refine WL.call Try.call31 rfl (use_ok g gi most A cap cs _ _ p hple (by omega) (el cs p) w0 w _ (M.sel (K := Asr.row g 88 [.int .i64 (most : Int), .slice A cs.length cap, .pointer (some ⟨gi, 0, none⟩), .int .i64 (begun : Int), .int .i64 (was : Int)] :: Asr.lst clientE A cap cs :: Asr.star (cs.map ClX.O) :: Asr.row g7_7 45 [.int .u64 ((el cs p).id : Int), .int .u64 ((el cs p).num : Int), .bool (el cs p).busy, .slice (el cs p).A (el cs p).rep.length (el cs p).cap] :: L) (by first | ((repeat (first | with_reducible exact Sel.refl | with_reducible exact Sel.nil | with_reducible exact Del.here | with_reducible apply Del.there | with_reducible apply Sel.cons | with_reducible apply Sel.drop)); done) | (repeat (first | exact Sel.refl | exact Sel.nil | exact Del.here | apply Del.there | apply Sel.cons | apply Sel.drop))))) rfl ?_
            rintro _ w ⟨rfl, A2, cap2, gi2, M⟩
            have hnum2 : num = (el cs p).num := by omega
            have hnum3 : num = (el T.l (posN T.l id)).num := by rw [hTp, hTe p hat]; exact hnum2
            have hbu : (el T.l (posN T.l id)).busy = (el cs p).busy := by rw [hTp, hTe p hat]; rfl
            have hlst : (cs.eraseIdx p ++ [el cs p]).map ClX.key = T.l.eraseIdx (posN T.l id) ++ [el T.l (posN T.l id)] := by
              rw [hTp, hTe p hat, hTL, List.map_append, map_eraseIdx']
              rfl
            refine WL.nil ?_
            refine WX.next ?_
            refine W.sub [(0, _), (10, _)] (.cons rfl (.cons rfl .nil)) ?_
            refine W.seq ?_
            refine W.seq ?_
            refine W.region ?_
            refine WL.fieldR (off := 2) Try.underlying45 rfl rfl Try.sizeOf4 rfl rfl rfl ?_
            refine WL.loadR Try.isAgg4 rfl M (by first | ((repeat (first | with_reducible exact Has.here | with_reducible refine Has.there ?_)); done) | (repeat (first | exact Has.here | refine Has.there ?_))) rfl rfl ?_
            refine WL.nil ?_
            refine WX.next ?_
            refine W.sub [(0, _), (10, _), (50, _)] (.cons rfl (.cons rfl (.cons rfl .nil))) ?_
            refine W.cond rfl (fun c5 => ?_) (fun c5 => ?_)
            · (try simp only [Bool.not_eq_true'] at c5); (try simp only [Bool.not_eq_false'] at c5); (try simp only [decide_eq_true_eq] at c5); (try simp only [decide_eq_false_iff_not] at c5)
              refine W.seq ?_
              refine W.region ?_
              refine WL.assign rfl rfl ?_
              refine WL.assign rfl rfl ?_
              refine WL.assign rfl rfl ?_
              refine WL.nil ?_
              refine WX.next ?_
              refine W.sub [(6, _), (7, _), (8, _)] (.cons rfl (.cons rfl (.cons rfl .nil))) ?_
              refine W.ret ?_
              refine WX.thenRet ?_
              refine WX.thenRet ?_
              refine WX.ret3 rfl rfl rfl rfl ?_
              have e1 := begK_2 (t := T) (id := id) (num := num) (by omega) (by omega) hnum3 (hbu.trans c5)
              have e2 : begS T id num = ⟨most, (cs.eraseIdx p ++ [el cs p]).map ClX.key, begun, was⟩ := by unfold begS; rw [if_pos e1, hlst, hTm, hTb, hTw]
              have M5 := Mem.starMove (M.sel (K := Asr.star (cs.map ClX.O) :: Asr.row g 88 [.int .i64 (most : Int), .slice A2 (cs.eraseIdx p ++ [el cs p]).length cap2, .pointer (some ⟨gi2, 0, none⟩), .int .i64 (begun : Int), .int .i64 (was : Int)] :: Asr.lst clientE A2 cap2 (cs.eraseIdx p ++ [el cs p]) :: Asr.star (ixL gi2 none) :: L) (by first | ((repeat (first | with_reducible exact Sel.refl | with_reducible exact Sel.nil | with_reducible exact Del.here | with_reducible apply Del.there | with_reducible apply Sel.cons | with_reducible apply Sel.drop)); done) | (repeat (first | exact Sel.refl | exact Sel.nil | exact Del.here | apply Del.there | apply Sel.cons | apply Sel.drop)))) p hat
              refine ⟨⟨g, most, A2, cap2, cs.eraseIdx p ++ [el cs p], gi2, none, begun, was⟩, none, 0, ?_, rfl, e2.symm, ⟨?_, fun q hq => by cases hq⟩, ?_⟩
              · unfold begA begR begE; rw [e1]; rfl
              · rw [e2] at hS; exact hS
              · have er : begR T id num = [] := by unfold begR; rw [e1]; rfl
                rw [er]
                unfold OT.L OT.row
                exact Mem.nilOwn (M5.sel (by first | ((repeat (first | with_reducible exact Sel.refl | with_reducible exact Sel.nil | with_reducible exact Del.here | with_reducible apply Del.there | with_reducible apply Sel.cons | with_reducible apply Sel.drop)); done) | (repeat (first | exact Sel.refl | exact Sel.nil | exact Del.here | apply Del.there | apply Sel.cons | apply Sel.drop)))) _ _
            · (try simp only [Bool.not_eq_true'] at c5); (try simp only [Bool.not_eq_false'] at c5); (try simp only [decide_eq_true_eq] at c5); (try simp only [decide_eq_false_iff_not] at c5)
              refine W.skip ?_
              refine WX.next ?_
              refine W.seq ?_
              refine W.region ?_
              refine WL.move rfl rfl ?_
              refine WL.nilCheck rfl rfl ?_
              refine WL.fieldR (off := 4) Try.underlying88 rfl rfl Try.sizeOf86 rfl rfl rfl ?_
              refine WL.call Try.call32 rfl (aAddM_ok (g := g) (o := 4) (z := (was : Int)) (s := ((was + 1 : Nat) : Int)) M (by first | ((repeat (first | with_reducible exact Has.here | with_reducible refine Has.there ?_)); done) | (repeat (first | exact Has.here | refine Has.there ?_))) rfl (by rw [wI64 (by omega)]; omega) (by repeat (first | exact SetAt.zero | apply SetAt.succ)) (by first | ((repeat (first | with_reducible exact Upd.here | with_reducible apply Upd.there)); done) | (repeat (first | exact Upd.here | apply Upd.there)))) rfl ?_
              rintro _ w M
              refine WL.nil ?_
              refine WX.next ?_
              refine W.sub [(10, _)] (.cons rfl .nil) ?_
              refine W.seq ?_
              refine W.region ?_
              refine WL.buildB (es := []) Try.elem5 M rfl rfl (by exact BytesOf.nil) (by rfl) rfl rfl ?_
              intro g14_0 w M
              refine WL.fieldR (off := 3) Try.underlying45 rfl rfl Try.sizeOf32 rfl rfl rfl ?_
              refine WL.loadR Try.isAgg32 rfl M (by first | ((repeat (first | with_reducible exact Has.here | with_reducible refine Has.there ?_)); done) | (repeat (first | exact Has.here | refine Has.there ?_))) rfl rfl ?_
              refine WL.appendBN Try.elem5 rfl rfl M (by first | ((repeat (first | with_reducible exact Del.here | with_reducible apply Del.there)); done) | (repeat (first | exact Del.here | apply Del.there))) (show RdB w (el cs p).A (el cs p).cap (el cs p).rep from ownRd (M.starHas (f := ClX.O) (by first | ((repeat (first | with_reducible exact Has.here | with_reducible refine Has.there ?_)); done) | (repeat (first | exact Has.here | refine Has.there ?_))) (el_mem hat))) rfl rfl (by have h200 := hrep p hat; simp; omega) rfl ?_
              intro A14_3 cap14_3 w M
              refine WL.assign rfl rfl ?_
              refine WL.assign rfl rfl ?_
              refine WL.assign rfl rfl ?_
              refine WL.nil ?_
              refine WX.next ?_
              refine W.sub [(6, _), (7, _), (8, _)] (.cons rfl (.cons rfl (.cons rfl .nil))) ?_
              refine W.ret ?_
              refine WX.thenRet ?_
              refine WX.ret3 rfl rfl rfl rfl ?_
              have e1 := begK_3 (t := T) (id := id) (num := num) (by omega) (by omega) hnum3 (by rw [hbu]; simpa using c5)
              have e2 : begS T id num = ⟨most, (cs.eraseIdx p ++ [el cs p]).map ClX.key, begun, was + 1⟩ := by unfold begS; rw [if_neg (by omega), if_pos e1, hlst, hTm, hTb, hTw]
              have er : begR T id num = (el cs p).rep := by unfold begR; rw [if_pos e1, hTp, hTe p hat]; rfl
              have M5 := Mem.starMove (M.sel (K := Asr.star (cs.map ClX.O) :: Asr.own 5 1 A14_3 (el cs p).rep.length cap14_3 (bs (el cs p).rep) :: Asr.row g 88 [.int .i64 (most : Int), .slice A2 (cs.eraseIdx p ++ [el cs p]).length cap2, .pointer (some ⟨gi2, 0, none⟩), .int .i64 (begun : Int), .int .i64 ((was + 1 : Nat) : Int)] :: Asr.lst clientE A2 cap2 (cs.eraseIdx p ++ [el cs p]) :: Asr.star (ixL gi2 none) :: L) (by first | ((repeat (first | with_reducible exact Sel.refl | with_reducible exact Sel.nil | with_reducible exact Del.here | with_reducible apply Del.there | with_reducible apply Sel.cons | with_reducible apply Sel.drop)); done) | (repeat (first | exact Sel.refl | exact Sel.nil | exact Del.here | apply Del.there | apply Sel.cons | apply Sel.drop)))) p hat
              refine ⟨⟨g, most, A2, cap2, cs.eraseIdx p ++ [el cs p], gi2, none, begun, was + 1⟩, A14_3, cap14_3, ?_, rfl, e2.symm, ⟨?_, fun q hq => by cases hq⟩, ?_⟩
              · rw [er]; unfold begA begE; rw [e1]; rfl
              · rw [e2] at hS; exact hS
              · rw [er]
                unfold OT.L OT.row
                exact M5.sel (by first | ((repeat (first | with_reducible exact Sel.refl | with_reducible exact Sel.nil | with_reducible exact Del.here | with_reducible apply Del.there | with_reducible apply Sel.cons | with_reducible apply Sel.drop)); done) | (repeat (first | exact Sel.refl | exact Sel.nil | exact Del.here | apply Del.there | apply Sel.cons | apply Sel.drop)))
        · refine W.skip ?_
          refine WX.join (()) (by (repeat' (first | exact envSub.nil | refine envSub.cons ?_ ?_)) <;> first | rfl | (refine congrArg some ?_; refine congrArg (Value.int _) ?_; first | omega | (dsimp only; omega)) | (simp; done) | (refine congrArg some ?_; dsimp only; congr 1; omega) | (simp; omega)) ⟨M1, (by omega)⟩
      · have hat : ¬ p < cs.length := by
          intro h
          rw [atI_in h] at c2
          omega
        have hao := atI_out hat
        refine WL.off rfl rfl rfl rfl ?_
        refine WL.off rfl rfl rfl rfl ?_
        refine WL.off rfl rfl rfl rfl ?_
        refine WL.off rfl rfl rfl rfl ?_
        refine WL.off rfl rfl rfl rfl ?_
        refine WL.off rfl rfl rfl rfl ?_
        refine WL.off rfl rfl rfl rfl ?_
        refine WL.off rfl rfl rfl rfl ?_
        refine WL.off rfl rfl rfl rfl ?_
        refine WL.off rfl rfl rfl rfl ?_
        refine WL.pickF rfl rfl rfl ?_
        refine WL.nil ?_
        refine WX.next ?_
        refine W.sub [(0, _), (1, _), (2, _), (9, _), (33, _)] (.cons rfl (.cons rfl (.cons rfl (.cons rfl (.cons rfl .nil))))) ?_
        refine W.condF rfl ?_
        refine W.skip ?_
        refine WX.join (()) (by (repeat' (first | exact envSub.nil | refine envSub.cons ?_ ?_)) <;> first | rfl | (refine congrArg some ?_; refine congrArg (Value.int _) ?_; first | omega | (dsimp only; omega)) | (simp; done) | (refine congrArg some ?_; dsimp only; congr 1; omega) | (simp; omega)) ⟨M1, (by omega)⟩
    clear M; rintro (⟨⟩) w ⟨M, hno⟩; dsimp only at M hno ⊢
    refine W.sub [(0, _), (1, _), (2, _), (9, _)] (.cons rfl (.cons rfl (.cons rfl (.cons rfl .nil)))) ?_
    have M1 := M
    unfold OT.L OT.row at M
    simp only [List.cons_append, List.nil_append] at M
    (try dsimp only at M)
    refine W.joint (fun (q : Nat) => [(0, .pointer (some ⟨g, 0, none⟩)), (1, .int .u64 (id : Int)), (2, .int .u64 (num : Int)), (9, .int .i64 (atI cs.length q))]) (fun j w => Mem w0 w ((fun _ => OT.L ⟨g, most, A, cap, cs, gi, some pm, begun, was⟩ ++ L) j) ∧ (fun q => q ≤ cs.length ∧ q = begQ T id ∧ begK T id num = 5) j) ?_ ?_
    · refine W.seq ?_
      refine W.drawM (_) (by kernel_rfl) (fun j => [6, 7, 11].contains j) M Sel.refl ?_
      clear M; intro M
      apply DG.pure_ [0, 1] 12 rfl (by kernel_rfl) (by kernel_rfl)
      · intro w
        refine WL.move rfl rfl ?_
        refine WL.lss rfl rfl rfl ?_
        exact Chain.end_ rfl
      refine DG.knowP (t := 60) rfl (fun c6 => ?_) (fun c6 => ?_)
      · apply DG.pure_ [2, 3, 4, 5, 8, 9, 10] 5 rfl (by kernel_rfl) (by kernel_rfl)
        · intro w
          refine WL.move rfl rfl ?_
          refine WL.on rfl rfl ?_
          refine WL.move rfl rfl ?_
          refine WL.on rfl rfl ?_
          refine WL.nilCheck rfl rfl ?_
          refine WL.on rfl rfl ?_
          refine WL.fieldR (off := 1) Try.underlying88 rfl rfl Try.sizeOf41 rfl rfl rfl ?_
          refine WL.on rfl rfl ?_
          refine WL.move rfl rfl ?_
          refine WL.on rfl rfl ?_
          refine WL.nilCheck rfl rfl ?_
          refine WL.on rfl rfl ?_
          refine WL.fieldR (off := 0) Try.underlying88 rfl rfl Try.sizeOf3 rfl rfl rfl ?_
          exact Chain.end_ rfl
        apply DG.take [6, 7, 11, 12, 13] 0 rfl (by kernel_rfl) (by kernel_rfl) (M.sel (by first | ((repeat (first | with_reducible exact Sel.refl | with_reducible exact Sel.nil | with_reducible exact Del.here | with_reducible apply Del.there | with_reducible apply Sel.cons | with_reducible apply Sel.drop)); done) | (repeat (first | exact Sel.refl | exact Sel.nil | exact Del.here | apply Del.there | apply Sel.cons | apply Sel.drop))))
        · intro w M
          refine WL.on rfl rfl ?_
          refine WL.loadR Try.isAgg41 rfl M (by first | ((repeat (first | with_reducible exact Has.here | with_reducible refine Has.there ?_)); done) | (repeat (first | exact Has.here | refine Has.there ?_))) rfl rfl ?_
          refine WL.on rfl rfl ?_
          refine WL.len Try.underlying41 rfl rfl ?_
          refine WL.on rfl rfl ?_
          refine WL.loadR Try.isAgg3 rfl M (by first | ((repeat (first | with_reducible exact Has.here | with_reducible refine Has.there ?_)); done) | (repeat (first | exact Has.here | refine Has.there ?_))) rfl rfl ?_
          refine WL.on rfl rfl ?_
          refine WL.geq rfl rfl rfl ?_
          refine WL.pickT rfl rfl rfl ?_
          exact Chain.end_ rfl
        refine DG.end_ (by kernel_rfl) ?_
        refine WX.next ?_
        refine W.sub [(0, _), (1, _), (2, _), (9, _), (72, _)] (.cons rfl (.cons rfl (.cons rfl (.cons rfl (.cons rfl .nil))))) ?_
        refine W.ite rfl (fun c7 => ?_) (fun c7 => ?_)
        · refine W.seq ?_
          refine W.region ?_
          refine WL.move rfl rfl ?_
          refine WL.nilCheck rfl rfl ?_
          refine WL.fieldR (off := 1) Try.underlying88 rfl rfl Try.sizeOf41 rfl rfl rfl ?_
          refine WL.loadR Try.isAgg41 rfl M (by first | ((repeat (first | with_reducible exact Has.here | with_reducible refine Has.there ?_)); done) | (repeat (first | exact Has.here | refine Has.there ?_))) rfl rfl ?_
          refine WL.call Try.call33 rfl (sIndexC_ok (by first | with_reducible assumption | with_reducible exact RdL.mem (by with_reducible assumption) M | exact M.rdL (by first | ((repeat (first | with_reducible exact Has.here | with_reducible refine Has.there ?_)); done) | (repeat (first | exact Has.here | refine Has.there ?_))) | exact RdLH.at (by assumption) (M.sel (by first | ((repeat (first | with_reducible exact Sel.refl | with_reducible exact Sel.nil | with_reducible exact Del.here | with_reducible apply Del.there | with_reducible apply Sel.cons | with_reducible apply Sel.drop)); done) | (repeat (first | exact Sel.refl | exact Sel.nil | exact Del.here | apply Del.there | apply Sel.cons | apply Sel.drop)))) | exact RdL.nil _ _ _) (by omega)) rfl ?_
          rintro _ w ⟨rfl, m⟩
          replace M := M.call0 m; clear m
          refine WL.assign rfl rfl ?_
          refine WL.nil ?_
          refine WX.next ?_
          refine W.sub [(0, _), (1, _), (2, _), (9, _)] (.cons rfl (.cons rfl (.cons rfl (.cons rfl .nil)))) ?_
          refine W.seq ?_
          refine W.region ?_
          refine WL.move rfl rfl ?_
          refine WL.lss rfl rfl rfl ?_
          refine WL.nil ?_
          refine WX.next ?_
          refine W.sub [(0, _), (1, _), (2, _), (9, _), (79, _)] (.cons rfl (.cons rfl (.cons rfl (.cons rfl (.cons rfl .nil))))) ?_
          refine W.ite rfl (fun c8 => ?_) (fun c8 => ?_)
          · have hf : ¬ freeN cs < cs.length := fun h => by rw [atI_in h] at c8; omega
            have hp0 : ¬ p < cs.length := fun h => by rw [atI_in h] at c6; omega
            refine W.seq ?_
            refine W.region ?_
            refine WL.assign rfl rfl ?_
            refine WL.assign rfl rfl ?_
            refine WL.assign rfl rfl ?_
            refine WL.nil ?_
            refine WX.next ?_
            refine W.sub [(6, _), (7, _), (8, _)] (.cons rfl (.cons rfl (.cons rfl .nil))) ?_
            refine W.ret ?_
            refine WX.thenRet ?_
            refine WX.ret3 rfl rfl rfl rfl ?_
            have e1 := begK_4 (t := T) (id := id) (num := num) (by omega) (by omega) (by omega) (by omega)
            exact same 0 130 ⟨g, most, A, cap, cs, gi, some pm, begun, was⟩ rfl hT.symm ⟨hok.s, fun q hq => by cases hq; exact hpm⟩ (by unfold begA; rw [e1]; rfl) (by unfold begE; rw [e1]; rfl) (by unfold begR; rw [e1]; rfl) (by unfold begS; rw [e1]; rfl) _ (M.sel (by first | ((repeat (first | with_reducible exact Sel.refl | with_reducible exact Sel.nil | with_reducible exact Del.here | with_reducible apply Del.there | with_reducible apply Sel.cons | with_reducible apply Sel.drop)); done) | (repeat (first | exact Sel.refl | exact Sel.nil | exact Del.here | apply Del.there | apply Sel.cons | apply Sel.drop))))
          · have hf : freeN cs < cs.length := by
              apply Classical.byContradiction
              intro h
              rw [atI_out h] at c8
              omega
            have hp0 : ¬ p < cs.length := fun h => by rw [atI_in h] at c6; omega
            refine W.skip ?_
            refine WX.join (freeN cs) (by (repeat' (first | exact envSub.nil | refine envSub.cons ?_ ?_)) <;> first | rfl | (refine congrArg some ?_; refine congrArg (Value.int _) ?_; first | omega | (dsimp only; omega)) | (simp; done) | (refine congrArg some ?_; dsimp only; congr 1; omega) | (simp; omega)) ⟨M.sel (by first | ((repeat (first | with_reducible exact Sel.refl | with_reducible exact Sel.nil | with_reducible exact Del.here | with_reducible apply Del.there | with_reducible apply Sel.cons | with_reducible apply Sel.drop)); done) | (repeat (first | exact Sel.refl | exact Sel.nil | exact Del.here | apply Del.there | apply Sel.cons | apply Sel.drop))), ⟨hfle, (by unfold begQ; rw [if_neg (by omega), if_pos (by omega), hTf]), begK_5 (by omega) (fun h => hp0 (by omega)) (by omega)⟩⟩
        · refine W.skip ?_
          have hp0 : ¬ p < cs.length := fun h => by rw [atI_in h] at c6; omega
          refine WX.join (p) (by (repeat' (first | exact envSub.nil | refine envSub.cons ?_ ?_)) <;> first | rfl | (refine congrArg some ?_; refine congrArg (Value.int _) ?_; first | omega | (dsimp only; omega)) | (simp; done) | (refine congrArg some ?_; dsimp only; congr 1; omega) | (simp; omega)) ⟨M.sel (by first | ((repeat (first | with_reducible exact Sel.refl | with_reducible exact Sel.nil | with_reducible exact Del.here | with_reducible apply Del.there | with_reducible apply Sel.cons | with_reducible apply Sel.drop)); done) | (repeat (first | exact Sel.refl | exact Sel.nil | exact Del.here | apply Del.there | apply Sel.cons | apply Sel.drop))), ⟨hple, (by unfold begQ; rw [if_neg (by omega), if_neg (by omega)]; omega), begK_5 (by omega) (fun h => hp0 (by omega)) (by omega)⟩⟩
      · apply DG.pure_ [2, 3, 4, 5, 8, 9, 10] 5 rfl (by kernel_rfl) (by kernel_rfl)
        · intro w
          refine WL.move rfl rfl ?_
          refine WL.off rfl rfl rfl rfl ?_
          refine WL.off rfl rfl rfl rfl ?_
          refine WL.off rfl rfl rfl rfl ?_
          refine WL.off rfl rfl rfl rfl ?_
          refine WL.off rfl rfl rfl rfl ?_
          refine WL.off rfl rfl rfl rfl ?_
          exact Chain.end_ rfl
        apply DG.take [6, 7, 11, 12, 13] 0 rfl (by kernel_rfl) (by kernel_rfl) (M.sel (by first | ((repeat (first | with_reducible exact Sel.refl | with_reducible exact Sel.nil | with_reducible exact Del.here | with_reducible apply Del.there | with_reducible apply Sel.cons | with_reducible apply Sel.drop)); done) | (repeat (first | exact Sel.refl | exact Sel.nil | exact Del.here | apply Del.there | apply Sel.cons | apply Sel.drop))))
        · intro w M
          refine WL.off rfl rfl rfl rfl ?_
          refine WL.off rfl rfl rfl rfl ?_
          refine WL.off rfl rfl rfl rfl ?_
          refine WL.off rfl rfl rfl rfl ?_
          refine WL.pickF rfl rfl rfl ?_
          exact Chain.end_ rfl
        refine DG.end_ (by kernel_rfl) ?_
        refine WX.next ?_
        refine W.sub [(0, _), (1, _), (2, _), (9, _), (72, _)] (.cons rfl (.cons rfl (.cons rfl (.cons rfl (.cons rfl .nil))))) ?_
        refine W.condF rfl ?_
        refine W.skip ?_
        have hp1 : p < cs.length := by
          apply Classical.byContradiction
          intro h
          rw [atI_out h] at c6
          omega
        have hno2 : ¬ num ≤ (el T.l (posN T.l id)).num := by rw [hTp, hTe p hp1]; exact fun h => hno ⟨hp1, h⟩
        refine WX.join (p) (by (repeat' (first | exact envSub.nil | refine envSub.cons ?_ ?_)) <;> first | rfl | (refine congrArg some ?_; refine congrArg (Value.int _) ?_; first | omega | (dsimp only; omega)) | (simp; done) | (refine congrArg some ?_; dsimp only; congr 1; omega) | (simp; omega)) ⟨M.sel (by first | ((repeat (first | with_reducible exact Sel.refl | with_reducible exact Sel.nil | with_reducible exact Del.here | with_reducible apply Del.there | with_reducible apply Sel.cons | with_reducible apply Sel.drop)); done) | (repeat (first | exact Sel.refl | exact Sel.nil | exact Del.here | apply Del.there | apply Sel.cons | apply Sel.drop))), ⟨hple, (by unfold begQ; rw [if_pos (by omega), hTp]), begK_5 (by omega) (fun h => hno2 h.2) (by omega)⟩⟩
    clear M; rintro (q) w ⟨M, ⟨hql, hq, hk5⟩⟩; dsimp only at M hql hq hk5 ⊢
    refine W.sub [(0, _), (1, _), (2, _), (9, _)] (.cons rfl (.cons rfl (.cons rfl (.cons rfl .nil)))) ?_
    unfold OT.L OT.row at M
    simp only [List.cons_append, List.nil_append] at M
    (try dsimp only at M)
    refine W.seq ?_
    refine W.region ?_
    refine WL.move rfl rfl ?_
    refine WL.move rfl rfl ?_
    refine WL.move rfl rfl ?_
    refine WL.move rfl rfl ?_
    refine WL.buildP (places := #[(0, 1), (1, 1), (2, 1), (3, 1)]) Try.underlying45 Try.zeroValue45 (fun _ => by simp [Try.sizeOf29, Try.sizeOf29, Try.sizeOf4, Try.sizeOf32]) rfl (by repeat (first | exact Puts.nil | exact SetAt.zero | apply SetAt.succ | apply Puts.cons rfl rfl)) rfl ?_
    refine WL.call Try.call31 rfl (use_ok g gi most A cap cs _ _ q hql (by omega) (reqX id num) w0 w _ M) rfl ?_
    rintro _ w ⟨rfl, A2, cap2, gi2, M⟩
    refine WL.nil ?_
    refine WX.next ?_
    refine W.sub [(0, _)] (.cons rfl .nil) ?_
    refine W.seq ?_
    refine W.region ?_
    refine WL.move rfl rfl ?_
    refine WL.nilCheck rfl rfl ?_
    refine WL.fieldR (off := 3) Try.underlying88 rfl rfl Try.sizeOf86 rfl rfl rfl ?_
    refine WL.call Try.call32 rfl (aAddM_ok (g := g) (o := 3) (z := (begun : Int)) (s := ((begun + 1 : Nat) : Int)) M (by first | ((repeat (first | with_reducible exact Has.here | with_reducible refine Has.there ?_)); done) | (repeat (first | exact Has.here | refine Has.there ?_))) rfl (by rw [wI64 (by omega)]; omega) (by repeat (first | exact SetAt.zero | apply SetAt.succ)) (by first | ((repeat (first | with_reducible exact Upd.here | with_reducible apply Upd.there)); done) | (repeat (first | exact Upd.here | apply Upd.there)))) rfl ?_
    rintro _ w M
    refine WL.nil ?_
    refine WX.next ?_
    refine W.sub [] .nil ?_
    refine W.seq ?_
    refine W.region ?_
    refine WL.assign rfl rfl ?_
    refine WL.assign rfl rfl ?_
    refine WL.assign rfl rfl ?_
    refine WL.nil ?_
    refine WX.next ?_
    refine W.sub [(6, _), (7, _), (8, _)] (.cons rfl (.cons rfl (.cons rfl .nil))) ?_
    refine W.ret ?_
    refine WX.ret3 rfl rfl rfl rfl ?_
    have e2 : begS T id num = ⟨most, (cs.eraseIdx q ++ [(reqX id num)]).map ClX.key, begun + 1, was⟩ := by
      unfold begS
      rw [if_neg (by omega), if_neg (by omega), if_pos hk5, ← hq, hTm, hTb, hTw, hTL, List.map_append, map_eraseIdx']
      rfl
    have er : begR T id num = [] := by unfold begR; rw [if_neg (by omega)]
    have M5 := Mem.starErase (M.sel (K := Asr.star (cs.map ClX.O) :: Asr.row g 88 [.int .i64 (most : Int), .slice A2 (cs.eraseIdx q ++ [(reqX id num)]).length cap2, .pointer (some ⟨gi2, 0, none⟩), .int .i64 ((begun + 1 : Nat) : Int), .int .i64 (was : Int)] :: Asr.lst clientE A2 cap2 (cs.eraseIdx q ++ [(reqX id num)]) :: Asr.star (ixL gi2 none) :: L) (by first | ((repeat (first | with_reducible exact Sel.refl | with_reducible exact Sel.nil | with_reducible exact Del.here | with_reducible apply Del.there | with_reducible apply Sel.cons | with_reducible apply Sel.drop)); done) | (repeat (first | exact Sel.refl | exact Sel.nil | exact Del.here | apply Del.there | apply Sel.cons | apply Sel.drop)))) q
    have M6 := Mem.starSnoc (A := (reqX id num).O) (Mem.nilOwn M5 5 1)
    rw [show (cs.eraseIdx q).map ClX.O ++ [(reqX id num).O] = (cs.eraseIdx q ++ [reqX id num]).map ClX.O by rw [List.map_append]; rfl] at M6
    refine ⟨⟨g, most, A2, cap2, cs.eraseIdx q ++ [(reqX id num)], gi2, none, begun + 1, was⟩, none, 0, ?_, rfl, e2.symm, ⟨?_, fun q hq => by cases hq⟩, ?_⟩
    · rw [er]; unfold begA begE; rw [hk5]; rfl
    · rw [e2] at hS; exact hS
    · rw [er]
      unfold OT.L OT.row
      exact Mem.nilOwn (M6.sel (by first | ((repeat (first | with_reducible exact Sel.refl | with_reducible exact Sel.nil | with_reducible exact Del.here | with_reducible apply Del.there | with_reducible apply Sel.cons | with_reducible apply Sel.drop)); done) | (repeat (first | exact Sel.refl | exact Sel.nil | exact Del.here | apply Del.there | apply Sel.cons | apply Sel.drop)))) _ _
end Go.Proofs.Ytmogpoghngmnmaa
