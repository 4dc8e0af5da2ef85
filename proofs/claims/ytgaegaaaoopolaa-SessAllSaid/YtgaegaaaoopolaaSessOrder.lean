/-
  Walk: whatever is lost, doubled, late (seawalllaw07.SessOrder).
-/
import Derived.Test.YtgaegaaaoopolaaLine3
import Derived.Test.YtgaegaaaoopolaaKnown07
import Derived.Test.YtgaegaaaoopolaaSessIn
namespace Go.Proofs.Ytgaegaaaoopolaa
open Go Go.RowKit Go.ChangeShapes Go.WideShapes Go.ChangeAt

structure PkX where
  how : Int
  at_ : Int
  ack : Bool
instance : Inhabited PkX := ⟨⟨0, 0, false⟩⟩
def pickE : Enc PkX := ⟨58, 3, fun a => [.int .i64 a.how, .int .i64 a.at_, .bool a.ack], fun _ => rfl, (fun a v hv => by
  simp only [List.mem_cons, List.not_mem_nil, or_false] at hv
  rcases hv with rfl | rfl | rfl <;> rfl), by decide⟩
section
variable {H : Type} {enc : TypeId × Value → H} {W : World} {base : Nat} {sp : Nat → Bool} {held : Bool}
set_option maxRecDepth 10000 in
theorem in_pick {m : Nat} {cs : List Value} {x : DataW H × List MemPlace} (h : DataW.trod enc Try.prog W base sp held m 58 cs = some x) : ∃ a : PkX, cs = pickE.cells a ∧ True := by
  obtain ⟨hl, m, hp⟩ := in_fields Try.underlying58 h
  have hl2 : cs.length = 3 := hl.trans (by kernel_rfl)
  match cs, hl2 with
  | [c0, c1, c2], _ =>
    obtain ⟨y0, h0⟩ := hp 0 _ rfl
    obtain ⟨y1, h1⟩ := hp 1 _ rfl
    obtain ⟨y2, h2⟩ := hp 2 _ rfl
    dsimp only at h0 h1 h2
    obtain ⟨a, e0, _⟩ := in_i64 Try.underlying3 h0
    obtain ⟨b, e1, _⟩ := in_i64 Try.underlying3 h1
    obtain ⟨k, e2⟩ := in_bool Try.underlying4 h2
    rw [show Program.cellsOf Try.prog 3 = 1 by kernel_rfl] at e0 e1
    rw [show Program.cellsOf Try.prog 4 = 1 by kernel_rfl] at e2
    obtain rfl : c0 = .int .i64 a := by simpa using e0
    obtain rfl : c1 = .int .i64 b := by simpa using e1
    obtain rfl : c2 = .bool k := by simpa using e2
    exact ⟨⟨a, b, k⟩, rfl, trivial⟩
set_option maxRecDepth 10000 in
theorem picks_in {v : Value} {d : DataW H} {ps : List MemPlace} (hv : Value.okWide Try.prog W .any base 53 v)
    (h : DataW.Trod enc Try.prog W 0 (fun _ => true) true 53 v d ps) : ∃ A l cap, v = .slice A (List.length l) cap ∧ RdL W pickE A cap l ∧ (∀ a ∈ l, True) ∧ cap ≤ maxLen := by
  obtain ⟨fuel, x, h1, h⟩ := arg_slice Try.underlying53 hv h
  obtain ⟨A, l, cap, he, hR, hQ, hm⟩ := in_list (E := pickE) (Q := fun _ => True) Try.underlying53 (by kernel_rfl) (fun m cs x h => in_pick h) h
  exact ⟨A, l, cap, by simpa using he, hR, hQ, hm⟩
end
theorem isFew_L {l : List OX} (h : isFew l) : fewL (l.map OX.l) := ⟨by rw [List.length_map]; exact h.1, fun b hb => by
  obtain ⟨o, ho, rfl⟩ := List.mem_map.1 hb
  exact h.2 o ho⟩
theorem LnX.inv.outL {l : List OX} {i : Nat} {x : LnX} {bs : List SX} (h : x.inv (l.map OX.l) i bs) : x.out.length = x.r.got ∧ x.out.map OX.l = (l.map OX.l).take x.out.length := by
  have h1 : x.out.map OX.l = (l.map OX.l).take x.r.got := h.inv.out
  have h2 : x.r.got ≤ (l.map OX.l).length := h.inv.r.got
  have h3 := congrArg List.length h1
  rw [List.length_map, List.length_take] at h3
  have h4 : x.out.length = x.r.got := by omega
  exact ⟨h4, by rw [h4]; exact h1⟩

set_option maxRecDepth 10000 in
set_option maxHeartbeats 2000000 in
theorem SessOrder_ok (window span : Int) (A0 : Option Addr) (k0 : Nat) (l : List OX) (A1 : Option Addr) (k1 : Nat) (picks : List PkX) (w0 : World) (h0 : RdL w0 oxE A0 k0 l) (hb0 : ∀ o ∈ l, RdB w0 o.A o.cap o.l) (hlm : l.length ≤ maxLen) (h1 : RdL w0 pickE A1 k1 picks) :
    Fn Try.prog 4 [.int .i64 window, .int .i64 span, .slice A0 l.length k0, .slice A1 picks.length k1] w0 fun v w' => v = .bool true ∧ Mem w0 w' [] := by
  have M := Mem.refl w0
  have hlm2 := hlm
  unfold maxLen at hlm2
  obtain ⟨w, hw⟩ : ∃ w, w = w0 := ⟨w0, rfl⟩
  refine Fn.enter Try.func4 rfl Try.ntmps4 rfl ?_
  refine W.sub [(0, _), (1, _), (2, _), (3, _)] (.cons rfl (.cons rfl (.cons rfl (.cons rfl .nil)))) ?_
  refine W.seq ?_
  refine W.region ?_
  refine WL.assign rfl rfl ?_
  refine WL.nil ?_
  refine WX.next ?_
  refine W.sub [(0, _), (1, _), (2, _), (3, _)] (.cons rfl (.cons rfl (.cons rfl (.cons rfl .nil)))) ?_
  refine W.seq ?_
  refine W.seq ?_
  refine W.region ?_
  refine WL.move rfl rfl ?_
  refine WL.call Try.call26 rfl (few_ok (h0.mem M) hlm) rfl ?_
  rintro _ w ⟨rfl, m⟩
  replace M := M.call0 m; clear m
  refine WL.notP rfl rfl ?_
  refine WL.nil ?_
  refine WX.next ?_
  refine W.sub [(0, _), (1, _), (2, _), (3, _), (14, _)] (.cons rfl (.cons rfl (.cons rfl (.cons rfl (.cons rfl .nil))))) ?_
  refine W.ite rfl (fun c0 => ?_) (fun c0 => ?_)
  · refine W.seq ?_
    refine W.region ?_
    refine WL.call Try.call12 rfl (known7_ok _) rfl ?_
    rintro _ w ⟨rfl, m⟩
    replace M := M.call0 m; clear m
    refine WL.assign rfl rfl ?_
    refine WL.nil ?_
    refine WX.next ?_
    refine W.sub [(8, _)] (.cons rfl .nil) ?_
    refine W.ret ?_
    refine WX.thenRet ?_
    refine WX.ret1 rfl rfl ?_
    exact ⟨rfl, M⟩
  · have hfew : isFew l := by
      apply Classical.byContradiction
      intro h
      exact absurd h (by first | exact fun _ => c0 ‹_› | simpa using c0)
    have hf := isFew_L hfew
    refine W.skip ?_
    refine WX.next ?_
    refine W.seq ?_
    refine W.region ?_
    refine WL.move rfl rfl ?_
    refine WL.move rfl rfl ?_
    refine WL.move rfl rfl ?_
    refine WL.call Try.call27 rfl (start_ok window span A0 k0 l _ (h0.mem M) (fun o h => (hb0 o h).mem M) hf) rfl ?_
    rintro _ w ⟨x0, rfl, hI0, m⟩
    replace M := M.callN m; clear m
    rw [List.append_nil] at M
    refine WL.assign rfl rfl ?_
    refine WL.nil ?_
    refine WX.next ?_
    refine W.sub [(2, _), (3, _), (9, _)] (.cons rfl (.cons rfl (.cons rfl .nil))) ?_
    refine W.seq ?_
    refine W.seq ?_
    refine W.region ?_
    refine WL.move rfl rfl ?_
    refine WL.eqNilF Try.underlying54 rfl rfl rfl ?_
    refine WL.nil ?_
    refine WX.next ?_
    refine W.sub [(2, _), (3, _), (9, _), (21, _)] (.cons rfl (.cons rfl (.cons rfl (.cons rfl .nil)))) ?_
    refine W.condF rfl ?_
    refine W.skip ?_
    refine WX.next ?_
    refine W.seq ?_
    refine W.seq ?_
    refine W.region ?_
    refine WL.assign rfl rfl ?_
    refine WL.nil ?_
    refine WX.next ?_
    refine W.sub [(2, _), (3, _), (9, _), (10, _)] (.cons rfl (.cons rfl (.cons rfl (.cons rfl .nil)))) ?_
    refine W.block ?_
    refine W.loop (ι := Nat × LnX × List SX) (fun z => [(2, .slice A0 l.length k0), (3, .slice A1 picks.length k1), (9, .pointer (some ⟨z.2.1.g, 0, none⟩)), (10, .int .i64 (z.1 : Int))]) (fun zz w => Mem w0 w ((fun z => z.2.1.L ++ [Asr.star (z.2.2.map SX.O)]) zz) ∧ (fun z => z.1 ≤ 300 ∧ z.2.1.inv (l.map OX.l) z.1 z.2.2) zz) (fun z => 300 - z.1) ((0, x0, [])) (by (repeat' (first | exact envSub.nil | refine envSub.cons ?_ ?_)) <;> first | rfl | (refine congrArg some ?_; refine congrArg (Value.int _) ?_; first | omega | (dsimp only; omega)) | (simp; done) | (refine congrArg some ?_; dsimp only; congr 1; omega) | (simp; omega)) ⟨M, ⟨by simp, hI0⟩⟩ ?_
    clear M; rintro (⟨i, x, bs⟩) w ⟨M, ⟨hi, hI⟩⟩; dsimp only at M hi hI ⊢
    refine W.sub [(2, _), (3, _), (9, _), (10, _)] (.cons rfl (.cons rfl (.cons rfl (.cons rfl .nil)))) ?_
    refine W.seq ?_
    refine W.seq ?_
    refine W.region ?_
    refine WL.move rfl rfl ?_
    refine WL.move rfl rfl ?_
    refine WL.len Try.underlying53 rfl rfl ?_
    refine WL.lss rfl rfl rfl ?_
    refine WL.moveIf rfl rfl (fun c2 => ?_) (fun c2 => ?_)
    · refine WL.on rfl rfl ?_
      refine WL.move rfl rfl ?_
      refine WL.on rfl rfl ?_
      refine WL.lss rfl rfl rfl ?_
      refine WL.pickT rfl rfl rfl ?_
      refine WL.nil ?_
      refine WX.next ?_
      refine W.sub [(2, _), (3, _), (9, _), (10, _), (29, _)] (.cons rfl (.cons rfl (.cons rfl (.cons rfl (.cons rfl .nil))))) ?_
      refine W.ite rfl (fun c3 => ?_) (fun c3 => ?_)
      · refine W.skip ?_
        refine WX.next ?_
        refine W.seq ?_
        refine W.block ?_
        refine W.seq ?_
        refine W.region ?_
        refine WL.move rfl rfl ?_
        refine WL.move rfl rfl ?_
        refine WL.move rfl rfl ?_
        refine WL.idxA Try.underlying53 Try.sizeOf58 rfl rfl (RdL.isSome (E := pickE) (by first | with_reducible assumption | with_reducible exact RdL.mem (by with_reducible assumption) M | exact M.rdL (by first | ((repeat (first | with_reducible exact Has.here | with_reducible refine Has.there ?_)); done) | (repeat (first | exact Has.here | refine Has.there ?_))) | exact RdLH.at (by assumption) (M.sel (by first | ((repeat (first | with_reducible exact Sel.refl | with_reducible exact Sel.nil | with_reducible exact Del.here | with_reducible apply Del.there | with_reducible apply Sel.cons | with_reducible apply Sel.drop)); done) | (repeat (first | exact Sel.refl | exact Sel.nil | exact Del.here | apply Del.there | apply Sel.cons | apply Sel.drop)))) | exact RdL.nil _ _ _) (by omega)) (by omega) (by omega) (by first | exact rfl | exact (Int.toNat_of_nonneg (by omega)).symm) rfl ?_
        refine WL.loadL (E := pickE) (cs := [_, _, _]) Try.isAgg58 Try.sizeOf58 rfl (by first | with_reducible assumption | with_reducible exact RdL.mem (by with_reducible assumption) M | exact M.rdL (by first | ((repeat (first | with_reducible exact Has.here | with_reducible refine Has.there ?_)); done) | (repeat (first | exact Has.here | refine Has.there ?_))) | exact RdLH.at (by assumption) (M.sel (by first | ((repeat (first | with_reducible exact Sel.refl | with_reducible exact Sel.nil | with_reducible exact Del.here | with_reducible apply Del.there | with_reducible apply Sel.cons | with_reducible apply Sel.drop)); done) | (repeat (first | exact Sel.refl | exact Sel.nil | exact Del.here | apply Del.there | apply Sel.cons | apply Sel.drop)))) | exact RdL.nil _ _ _) rfl (by omega) rfl rfl ?_
        refine WL.call Try.call28 rfl (pick_ok (l.map OX.l) hf i (by omega) x bs hI (el picks i).how (el picks i).at_ (el picks i).ack w0 w [] M) rfl ?_
        rintro _ w ⟨x2, bs2, rfl, hg, hI2, M⟩
        have hO := hI2.outL
        have hA := hI2.inv.ack
        have hS := hI2.inv.s.len
        have hP := SnX.is.len hI2.is.s
        have hR := hI2.inv.r.got
        have hl60 := hfew.1
        rw [List.length_map] at hS hR
        rw [hg]
        obtain ⟨g, gs, As, cs, ps, s, gr, gm, ms, r, At, ct, to, Ab, cb, back, Ao, co, out⟩ := x2
        unfold LnX.L LnX.row at M
        simp only [List.cons_append, List.nil_append] at M
        dsimp only [LnX.n] at hO hA hS hP hR M ⊢
        refine WL.assign rfl rfl ?_
        refine WL.nil ?_
        refine WX.next ?_
        refine W.sub [(2, _), (3, _), (9, _), (10, _), (11, _)] (.cons rfl (.cons rfl (.cons rfl (.cons rfl (.cons rfl .nil))))) ?_
        refine W.seq ?_
        refine W.drawM ([Asr.row g 62 [.pointer (some ⟨gs, 0, none⟩), .pointer (some ⟨gr, 0, none⟩), .slice At to.length ct, .slice Ab back.length cb, .slice Ao out.length co]]) (by kernel_rfl) (fun j => [12, 13, 14, 15, 16, 17, 18, 19, 20, 21, 22, 23, 24].contains j) M (by first | ((repeat (first | with_reducible exact Sel.refl | with_reducible exact Sel.nil | with_reducible exact Del.here | with_reducible apply Del.there | with_reducible apply Sel.cons | with_reducible apply Sel.drop)); done) | (repeat (first | exact Sel.refl | exact Sel.nil | exact Del.here | apply Del.there | apply Sel.cons | apply Sel.drop))) ?_
        clear M; intro M
        apply DG.pure_ [0, 1] 25 rfl (by kernel_rfl) (by kernel_rfl)
        · intro w
          refine WL.move rfl rfl ?_
          refine WL.not rfl rfl ?_
          exact Chain.end_ rfl
        refine DG.know (t := 39) rfl (fun c4 => ?_) (fun c4 => ?_)
        · (try simp only [Bool.not_eq_true'] at c4); (try simp only [Bool.not_eq_false'] at c4); (try simp only [decide_eq_true_eq] at c4); (try simp only [decide_eq_false_iff_not] at c4)
          exact absurd c4 (by decide)
        · (try simp only [Bool.not_eq_true'] at c4); (try simp only [Bool.not_eq_false'] at c4); (try simp only [decide_eq_true_eq] at c4); (try simp only [decide_eq_false_iff_not] at c4)
          apply DG.pure_ [2, 3, 4, 5, 7] 20 rfl (by kernel_rfl) (by kernel_rfl)
          · intro w
            refine WL.move rfl rfl ?_
            refine WL.on rfl rfl ?_
            refine WL.move rfl rfl ?_
            refine WL.on rfl rfl ?_
            refine WL.nilCheck rfl rfl ?_
            refine WL.on rfl rfl ?_
            refine WL.fieldR (off := 4) Try.underlying62 rfl rfl Try.sizeOf33 rfl rfl rfl ?_
            refine WL.on rfl rfl ?_
            refine WL.move rfl rfl ?_
            exact Chain.end_ rfl
          apply DG.take [6] 19 rfl (by kernel_rfl) (by kernel_rfl) (M.sel (by first | ((repeat (first | with_reducible exact Sel.refl | with_reducible exact Sel.nil | with_reducible exact Del.here | with_reducible apply Del.there | with_reducible apply Sel.cons | with_reducible apply Sel.drop)); done) | (repeat (first | exact Sel.refl | exact Sel.nil | exact Del.here | apply Del.there | apply Sel.cons | apply Sel.drop))))
          · intro w M
            refine WL.on rfl rfl ?_
            refine WL.loadR Try.isAgg33 rfl M (by first | ((repeat (first | with_reducible exact Has.here | with_reducible refine Has.there ?_)); done) | (repeat (first | exact Has.here | refine Has.there ?_))) rfl rfl ?_
            exact Chain.end_ rfl
          refine DG.step 8 18 rfl (by kernel_rfl) ?_
          refine WL.on rfl rfl ?_
          refine WL.call Try.call29 rfl (begins_ok (by first | with_reducible assumption | with_reducible exact RdL.mem (by with_reducible assumption) M | exact M.rdL (by first | ((repeat (first | with_reducible exact Has.here | with_reducible refine Has.there ?_)); done) | (repeat (first | exact Has.here | refine Has.there ?_))) | exact RdLH.at (by assumption) (M.sel (by first | ((repeat (first | with_reducible exact Sel.refl | with_reducible exact Sel.nil | with_reducible exact Del.here | with_reducible apply Del.there | with_reducible apply Sel.cons | with_reducible apply Sel.drop)); done) | (repeat (first | exact Sel.refl | exact Sel.nil | exact Del.here | apply Del.there | apply Sel.cons | apply Sel.drop)))) | exact RdL.nil _ _ _) (h0.mem M) (fun o h => ownRd (M.starHas (f := OX.O) (by first | ((repeat (first | with_reducible exact Has.here | with_reducible refine Has.there ?_)); done) | (repeat (first | exact Has.here | refine Has.there ?_))) h)) (fun o h => (hb0 o h).mem M) (by omega) hO.2) rfl ?_
          rintro _ w ⟨rfl, m⟩
          replace M := M.call0 m; clear m
          refine DG.go (G := fun j => [12, 13, 14, 15, 16, 17, 18, 19, 20, 21, 22, 23, 24].contains j) (i := 8) (f' := 18) (done := [0, 1, 2, 3, 4, 5, 7, 6]) (fun h => by cases h) ?_
          apply DG.pure_ [9, 10] 16 rfl (by kernel_rfl) (by kernel_rfl)
          · intro w
            refine WL.on rfl rfl ?_
            refine WL.not rfl rfl ?_
            refine WL.pickF rfl rfl rfl ?_
            exact Chain.end_ rfl
          refine DG.know (t := 48) rfl (fun c5 => ?_) (fun c5 => ?_)
          · (try simp only [Bool.not_eq_true'] at c5); (try simp only [Bool.not_eq_false'] at c5); (try simp only [decide_eq_true_eq] at c5); (try simp only [decide_eq_false_iff_not] at c5)
            exact absurd c5 (by decide)
          · (try simp only [Bool.not_eq_true'] at c5); (try simp only [Bool.not_eq_false'] at c5); (try simp only [decide_eq_true_eq] at c5); (try simp only [decide_eq_false_iff_not] at c5)
            apply DG.pure_ [11] 15 rfl (by kernel_rfl) (by kernel_rfl)
            · intro w
              refine WL.move rfl rfl ?_
              exact Chain.end_ rfl
            apply DG.take [12, 13, 14, 15, 16, 17, 20, 21, 22, 23, 24] 4 rfl (by kernel_rfl) (by kernel_rfl) (M.sel (by first | ((repeat (first | with_reducible exact Sel.refl | with_reducible exact Sel.nil | with_reducible exact Del.here | with_reducible apply Del.there | with_reducible apply Sel.cons | with_reducible apply Sel.drop)); done) | (repeat (first | exact Sel.refl | exact Sel.nil | exact Del.here | apply Del.there | apply Sel.cons | apply Sel.drop))))
            · intro w M
              refine WL.on rfl rfl ?_
              refine WL.move rfl rfl ?_
              refine WL.on rfl rfl ?_
              refine WL.len Try.underlying33 rfl rfl ?_
              refine WL.on rfl rfl ?_
              refine WL.move rfl rfl ?_
              refine WL.on rfl rfl ?_
              refine WL.nilCheck rfl rfl ?_
              refine WL.on rfl rfl ?_
              refine WL.fieldR (off := 0) Try.underlying62 rfl rfl Try.sizeOf24 rfl rfl rfl ?_
              refine WL.on rfl rfl ?_
              refine WL.loadR Try.isAgg24 rfl M (by first | ((repeat (first | with_reducible exact Has.here | with_reducible refine Has.there ?_)); done) | (repeat (first | exact Has.here | refine Has.there ?_))) rfl rfl ?_
              refine WL.on rfl rfl ?_
              refine WL.move rfl rfl ?_
              refine WL.on rfl rfl ?_
              refine WL.nilCheck rfl rfl ?_
              refine WL.on rfl rfl ?_
              refine WL.fieldR (off := 4) Try.underlying62 rfl rfl Try.sizeOf33 rfl rfl rfl ?_
              refine WL.on rfl rfl ?_
              refine WL.loadR Try.isAgg33 rfl M (by first | ((repeat (first | with_reducible exact Has.here | with_reducible refine Has.there ?_)); done) | (repeat (first | exact Has.here | refine Has.there ?_))) rfl rfl ?_
              refine WL.on rfl rfl ?_
              refine WL.len Try.underlying33 rfl rfl ?_
              exact Chain.end_ rfl
            refine DG.step 18 3 rfl (by kernel_rfl) ?_
            refine WL.on rfl rfl ?_
            refine WL.call Try.call24 rfl (Left_ok ⟨gs, As, cs, ps, s⟩ _ _ _ _ M (by first | ((repeat (first | with_reducible exact Del.here | with_reducible apply Del.there)); done) | (repeat (first | exact Del.here | apply Del.there)))) rfl ?_
            rintro _ _ ⟨rfl, rfl⟩
            refine DG.go (G := fun j => [12, 13, 14, 15, 16, 17, 18, 19, 20, 21, 22, 23, 24].contains j) (i := 18) (f' := 3) (done := [0, 1, 2, 3, 4, 5, 7, 6, 8, 9, 10, 11, 12, 13, 14, 15, 16, 17, 20, 21, 22, 23, 24]) (fun _ => M.sel (by first | ((repeat (first | with_reducible exact Sel.refl | with_reducible exact Sel.nil | with_reducible exact Del.here | with_reducible apply Del.there | with_reducible apply Sel.cons | with_reducible apply Sel.drop)); done) | (repeat (first | exact Sel.refl | exact Sel.nil | exact Del.here | apply Del.there | apply Sel.cons | apply Sel.drop)))) ?_
            apply DG.take [19, 25, 26] 0 rfl (by kernel_rfl) (by kernel_rfl) (M.sel (by first | ((repeat (first | with_reducible exact Sel.refl | with_reducible exact Sel.nil | with_reducible exact Del.here | with_reducible apply Del.there | with_reducible apply Sel.cons | with_reducible apply Sel.drop)); done) | (repeat (first | exact Sel.refl | exact Sel.nil | exact Del.here | apply Del.there | apply Sel.cons | apply Sel.drop))))
            · intro w M
              refine WL.on rfl rfl ?_
              refine WL.sub' rfl rfl (wI64 (by dsimp only; omega)) rfl ?_
              refine WL.on rfl rfl ?_
              refine WL.gtr rfl rfl rfl ?_
              refine WL.pickF rfl rfl rfl ?_
              exact Chain.end_ rfl
            refine DG.end_ (by kernel_rfl) ?_
            refine WX.next ?_
            refine W.sub [(2, _), (3, _), (9, _), (10, _), (64, _)] (.cons rfl (.cons rfl (.cons rfl (.cons rfl (.cons rfl .nil))))) ?_
            refine W.ite rfl (fun c6 => ?_) (fun c6 => ?_)
            · exact absurd c6 (by first | decide | (dsimp only; omega))
            · refine W.skip ?_
              refine WX.blockNormal ?_
              refine WX.next ?_
              refine W.region ?_
              refine WL.move rfl rfl ?_
              refine WL.add rfl rfl (by first | exact wI64 (by omega) | rfl) rfl ?_
              refine WL.assign rfl rfl ?_
              refine WL.nil ?_
              refine WX.round ((i + 1, ⟨g, gs, As, cs, ps, s, gr, gm, ms, r, At, ct, to, Ab, cb, back, Ao, co, out⟩, bs2)) (by (repeat' (first | exact envSub.nil | refine envSub.cons ?_ ?_)) <;> first | rfl | (refine congrArg some ?_; refine congrArg (Value.int _) ?_; first | omega | (dsimp only; omega)) | (simp; done) | (refine congrArg some ?_; dsimp only; congr 1; omega) | (simp; omega)) ⟨M.sel (by first | ((repeat (first | with_reducible exact Sel.refl | with_reducible exact Sel.nil | with_reducible exact Del.here | with_reducible apply Del.there | with_reducible apply Sel.cons | with_reducible apply Sel.drop)); done) | (repeat (first | exact Sel.refl | exact Sel.nil | exact Del.here | apply Del.there | apply Sel.cons | apply Sel.drop))), ⟨by dsimp only; omega, hI2⟩⟩ (by first | omega | (dsimp only; omega))
      · refine W.exit ?_
        refine WX.thenExit ?_
        refine WX.thenExit ?_
        refine WX.blockHere ?_
        refine WX.next ?_
        refine W.seq ?_
        refine W.region ?_
        refine WL.call Try.call12 rfl (known7_ok _) rfl ?_
        rintro _ w ⟨rfl, m⟩
        replace M := M.call0 m; clear m
        refine WL.assign rfl rfl ?_
        refine WL.nil ?_
        refine WX.next ?_
        refine W.sub [(8, _)] (.cons rfl .nil) ?_
        refine W.ret ?_
        refine WX.ret1 rfl rfl ?_
        exact ⟨rfl, M.sel (by first | ((repeat (first | with_reducible exact Sel.refl | with_reducible exact Sel.nil | with_reducible exact Del.here | with_reducible apply Del.there | with_reducible apply Sel.cons | with_reducible apply Sel.drop)); done) | (repeat (first | exact Sel.refl | exact Sel.nil | exact Del.here | apply Del.there | apply Sel.cons | apply Sel.drop)))⟩
    · refine WL.off rfl rfl rfl rfl ?_
      refine WL.off rfl rfl rfl rfl ?_
      refine WL.pickF rfl rfl rfl ?_
      refine WL.nil ?_
      refine WX.next ?_
      refine W.sub [(2, _), (3, _), (9, _), (10, _), (29, _)] (.cons rfl (.cons rfl (.cons rfl (.cons rfl (.cons rfl .nil))))) ?_
      refine W.condF rfl ?_
      refine W.exit ?_
      refine WX.thenExit ?_
      refine WX.thenExit ?_
      refine WX.blockHere ?_
      refine WX.next ?_
      refine W.seq ?_
      refine W.region ?_
      refine WL.call Try.call12 rfl (known7_ok _) rfl ?_
      rintro _ w ⟨rfl, m⟩
      replace M := M.call0 m; clear m
      refine WL.assign rfl rfl ?_
      refine WL.nil ?_
      refine WX.next ?_
      refine W.sub [(8, _)] (.cons rfl .nil) ?_
      refine W.ret ?_
      refine WX.ret1 rfl rfl ?_
      exact ⟨rfl, M.sel (by first | ((repeat (first | with_reducible exact Sel.refl | with_reducible exact Sel.nil | with_reducible exact Del.here | with_reducible apply Del.there | with_reducible apply Sel.cons | with_reducible apply Sel.drop)); done) | (repeat (first | exact Sel.refl | exact Sel.nil | exact Del.here | apply Del.there | apply Sel.cons | apply Sel.drop)))⟩
end Go.Proofs.Ytgaegaaaoopolaa
