/-
  Walk: all pieces come, once all that is under way comes (seawalllaw07.SessAll).
-/
import Derived.Test.YtgaegaaaoopolaaSessOrder
import Derived.Test.YtgaegaaaoopolaaAllLaw
namespace Go.Proofs.Ytgaegaaaoopolaa
open Go Go.RowKit

theorem comesT_ok (x : LnX) (hx : x.is) (hs : x.s.ok) (hr : x.r.ok) (q : SX) (hq1 : q.life < 18446744073709551616) (hq2 : q.seq < 18446744073709551616) (hbl : x.back.length < 1000000) (hol : x.out.length < 1000000) (hm : x.r.m.length < 1000)
    (w0 w : World) (L : List Asr) (M : Mem w0 w (x.L ++ L)) (hb : RdH w0 L q.x.A q.x.cap q.x.l) :
    Fn Try.prog 30 [.pointer (some ⟨x.g, 0, none⟩), q.v, .bool false] w fun v w' => ∃ As cs ps gm ms Ab cb back Ao co out,
      v = .bool (decide (rhE x.r q.key = 0)) ∧ LnX.is ⟨x.g, x.gs, As, cs, ps, x.s, x.gr, gm, ms, rhS x.r q.key, x.At, x.ct, x.to, Ab, cb, back, Ao, co, out⟩ ∧
      back.map SX.key = x.back.map SX.key ++ [rhA x.r q.key] ∧ out.map OX.l = x.out.map OX.l ++ rhO x.r q.key ∧
      Mem w0 w' (LnX.L ⟨x.g, x.gs, As, cs, ps, x.s, x.gr, gm, ms, rhS x.r q.key, x.At, x.ct, x.to, Ab, cb, back, Ao, co, out⟩ ++ L) :=
  comes_ok x hx hs hr false q hq1 hq2 hbl hol hm w0 w L M fun _ => hb
theorem comesB_ok (x : LnX) (hx : x.is) (hs : x.s.ok) (hr : x.r.ok) (q : SX) (hq1 : q.life < 18446744073709551616) (hq2 : q.seq < 18446744073709551616) (hbl : x.back.length < 1000000) (hol : x.out.length < 1000000) (hm : x.r.m.length < 1000)
    (w0 w : World) (L : List Asr) (M : Mem w0 w (x.L ++ L)) :
    Fn Try.prog 30 [.pointer (some ⟨x.g, 0, none⟩), q.v, .bool true] w fun v w' => ∃ As cs ps gm ms Ab cb back Ao co out,
      v = .bool (decide (hearE x.s q.key = 0)) ∧ LnX.is ⟨x.g, x.gs, As, cs, ps, hearS x.s q.key, x.gr, gm, ms, x.r, x.At, x.ct, x.to, Ab, cb, back, Ao, co, out⟩ ∧
      back.map SX.key = x.back.map SX.key ++ [] ∧ out.map OX.l = x.out.map OX.l ++ [] ∧
      Mem w0 w' (LnX.L ⟨x.g, x.gs, As, cs, ps, hearS x.s q.key, x.gr, gm, ms, x.r, x.At, x.ct, x.to, Ab, cb, back, Ao, co, out⟩ ++ L) :=
  comes_ok x hx hs hr true q hq1 hq2 hbl hol hm w0 w L M fun h => by cases h

/-- What is known of a line in the k-th round. -/
structure LnX.inv2 (l : List (List UInt8)) (k : Nat) (x : LnX) (bs : List SX) : Prop where
  is : x.is
  inv : Inv l x.n
  now : x.s.now ≤ 100 + k
  to : x.to.length ≤ 800
  back : x.back.length ≤ 100
  sub : ∀ q ∈ x.to, q ∈ bs
theorem LnX.inv.inv2 {l : List (List UInt8)} {i : Nat} {x : LnX} {bs : List SX} (h : x.inv l i bs) (hi : i ≤ 100) : x.inv2 l 0 bs :=
  ⟨h.is, h.inv, by have := h.now; omega, by have := h.to; omega, by have := h.back; omega, h.sub⟩
theorem mem_el {α : Type} [Inhabited α] {l : List α} {a : α} (h : a ∈ l) : ∃ i, i < l.length ∧ el l i = a := by
  obtain ⟨j, hj, rfl⟩ := List.getElem_of_mem h
  exact ⟨j, hj, by simp [el, hj]⟩

set_option maxRecDepth 10000 in
set_option maxHeartbeats 4000000 in
theorem SessAll_ok (window span : Int) (A0 : Option Addr) (k0 : Nat) (l : List OX) (A1 : Option Addr) (k1 : Nat) (picks : List PkX) (w0 : World) (h0 : RdL w0 oxE A0 k0 l) (hb0 : ∀ o ∈ l, RdB w0 o.A o.cap o.l) (hlm : l.length ≤ maxLen) (h1 : RdL w0 pickE A1 k1 picks) :
    Fn Try.prog 5 [.int .i64 window, .int .i64 span, .slice A0 l.length k0, .slice A1 picks.length k1] w0 fun v w' => v = .bool true ∧ Mem w0 w' [] := by
  have M := Mem.refl w0
  have hlm2 := hlm
  unfold maxLen at hlm2
  obtain ⟨w, hw⟩ : ∃ w, w = w0 := ⟨w0, rfl⟩
  refine Fn.enter Try.func5 rfl Try.ntmps5 rfl ?_
  refine W.sub [(0, _), (1, _), (2, _), (3, _)] (.cons rfl (.cons rfl (.cons rfl (.cons rfl .nil)))) ?_
  refine W.seq ?_
  refine W.region ?_
  refine WL.assign rfl rfl ?_
  refine WL.nil ?_
  refine WX.next ?_
  refine W.sub [(0, _), (1, _), (2, _), (3, _)] (.cons rfl (.cons rfl (.cons rfl (.cons rfl .nil)))) ?_
  refine W.seq ?_
  refine W.seq ?_
  refine W.region ?_
  refine WL.move rfl rfl ?_
  refine WL.call Try.call26 rfl (few_ok (h0.mem M) hlm) rfl ?_
  rintro _ w ⟨rfl, m⟩
  replace M := M.call0 m; clear m
  refine WL.notP rfl rfl ?_
  refine WL.nil ?_
  refine WX.next ?_
  refine W.sub [(0, _), (1, _), (2, _), (3, _), (17, _)] (.cons rfl (.cons rfl (.cons rfl (.cons rfl (.cons rfl .nil))))) ?_
  refine W.ite rfl (fun c0 => ?_) (fun c0 => ?_)
  · refine W.seq ?_
    refine W.region ?_
    refine WL.call Try.call12 rfl (known7_ok _) rfl ?_
    rintro _ w ⟨rfl, m⟩
    replace M := M.call0 m; clear m
    refine WL.assign rfl rfl ?_
    refine WL.nil ?_
    refine WX.next ?_
    refine W.sub [(8, _)] (.cons rfl .nil) ?_
    refine W.ret ?_
    refine WX.thenRet ?_
    refine WX.ret1 rfl rfl ?_
    exact ⟨rfl, M⟩
  · have hfew : isFew l := by
      apply Classical.byContradiction
      intro h
      exact absurd h (by first | exact fun _ => c0 ‹_› | simpa using c0)
    have hf := isFew_L hfew
    have hl60 := hfew.1
    refine W.skip ?_
    refine WX.next ?_
    refine W.seq ?_
    refine W.region ?_
    refine WL.move rfl rfl ?_
    refine WL.move rfl rfl ?_
    refine WL.move rfl rfl ?_
    refine WL.call Try.call27 rfl (start_ok window span A0 k0 l _ (h0.mem M) (fun o h => (hb0 o h).mem M) hf) rfl ?_
    rintro _ w ⟨x0, rfl, hI0, m⟩
    replace M := M.callN m; clear m
    rw [List.append_nil] at M
    refine WL.assign rfl rfl ?_
    refine WL.nil ?_
    refine WX.next ?_
    refine W.sub [(2, _), (3, _), (9, _)] (.cons rfl (.cons rfl (.cons rfl .nil))) ?_
    refine W.seq ?_
    refine W.seq ?_
    refine W.region ?_
    refine WL.move rfl rfl ?_
    refine WL.eqNilF Try.underlying54 rfl rfl rfl ?_
    refine WL.nil ?_
    refine WX.next ?_
    refine W.sub [(2, _), (3, _), (9, _), (24, _)] (.cons rfl (.cons rfl (.cons rfl (.cons rfl .nil)))) ?_
    refine W.condF rfl ?_
    refine W.skip ?_
    refine WX.next ?_
    refine W.seq ?_
    refine W.seq ?_
    refine W.region ?_
    refine WL.assign rfl rfl ?_
    refine WL.nil ?_
    refine WX.next ?_
    refine W.sub [(2, _), (3, _), (9, _), (10, _)] (.cons rfl (.cons rfl (.cons rfl (.cons rfl .nil)))) ?_
    refine W.block ?_
    refine W.loop (ι := Nat × LnX × List SX) (fun z => [(2, .slice A0 l.length k0), (3, .slice A1 picks.length k1), (9, .pointer (some ⟨z.2.1.g, 0, none⟩)), (10, .int .i64 (z.1 : Int))]) (fun zz w => Mem w0 w ((fun z => z.2.1.L ++ [Asr.star (z.2.2.map SX.O)]) zz) ∧ (fun z => z.1 ≤ 100 ∧ z.2.1.inv (l.map OX.l) z.1 z.2.2) zz) (fun z => 100 - z.1) ((0, x0, [])) (by (repeat' (first | exact envSub.nil | refine envSub.cons ?_ ?_)) <;> first | rfl | (refine congrArg some ?_; refine congrArg (Value.int _) ?_; first | omega | (dsimp only; omega)) | (simp; done) | (refine congrArg some ?_; dsimp only; congr 1; omega) | (simp; omega)) ⟨M, ⟨by simp, hI0⟩⟩ ?_
    clear M; rintro (⟨i, x, bs⟩) w ⟨M, ⟨hi, hI⟩⟩; dsimp only at M hi hI ⊢
    refine W.sub [(2, _), (3, _), (9, _), (10, _)] (.cons rfl (.cons rfl (.cons rfl (.cons rfl .nil)))) ?_
    refine W.seq ?_
    refine W.seq ?_
    refine W.region ?_
    refine WL.move rfl rfl ?_
    refine WL.move rfl rfl ?_
    refine WL.len Try.underlying53 rfl rfl ?_
    refine WL.lss rfl rfl rfl ?_
    refine WL.moveIf rfl rfl (fun c2 => ?_) (fun c2 => ?_)
    · refine WL.on rfl rfl ?_
      refine WL.move rfl rfl ?_
      refine WL.on rfl rfl ?_
      refine WL.lss rfl rfl rfl ?_
      refine WL.pickT rfl rfl rfl ?_
      refine WL.nil ?_
      refine WX.next ?_
      refine W.sub [(2, _), (3, _), (9, _), (10, _), (32, _)] (.cons rfl (.cons rfl (.cons rfl (.cons rfl (.cons rfl .nil))))) ?_
      refine W.ite rfl (fun c3 => ?_) (fun c3 => ?_)
      · refine W.skip ?_
        refine WX.next ?_
        refine W.seq ?_
        refine W.block ?_
        refine W.seq ?_
        refine W.region ?_
        refine WL.move rfl rfl ?_
        refine WL.move rfl rfl ?_
        refine WL.move rfl rfl ?_
        refine WL.idxA Try.underlying53 Try.sizeOf58 rfl rfl (RdL.isSome (E := pickE) (by first | with_reducible assumption | with_reducible exact RdL.mem (by with_reducible assumption) M | exact M.rdL (by first | ((repeat (first | with_reducible exact Has.here | with_reducible refine Has.there ?_)); done) | (repeat (first | exact Has.here | refine Has.there ?_))) | exact RdLH.at (by assumption) (M.sel (by first | ((repeat (first | with_reducible exact Sel.refl | with_reducible exact Sel.nil | with_reducible exact Del.here | with_reducible apply Del.there | with_reducible apply Sel.cons | with_reducible apply Sel.drop)); done) | (repeat (first | exact Sel.refl | exact Sel.nil | exact Del.here | apply Del.there | apply Sel.cons | apply Sel.drop)))) | exact RdL.nil _ _ _) (by omega)) (by omega) (by omega) (by first | exact rfl | exact (Int.toNat_of_nonneg (by omega)).symm) rfl ?_
        refine WL.loadL (E := pickE) (cs := [_, _, _]) Try.isAgg58 Try.sizeOf58 rfl (by first | with_reducible assumption | with_reducible exact RdL.mem (by with_reducible assumption) M | exact M.rdL (by first | ((repeat (first | with_reducible exact Has.here | with_reducible refine Has.there ?_)); done) | (repeat (first | exact Has.here | refine Has.there ?_))) | exact RdLH.at (by assumption) (M.sel (by first | ((repeat (first | with_reducible exact Sel.refl | with_reducible exact Sel.nil | with_reducible exact Del.here | with_reducible apply Del.there | with_reducible apply Sel.cons | with_reducible apply Sel.drop)); done) | (repeat (first | exact Sel.refl | exact Sel.nil | exact Del.here | apply Del.there | apply Sel.cons | apply Sel.drop)))) | exact RdL.nil _ _ _) rfl (by omega) rfl rfl ?_
        refine WL.call Try.call28 rfl (pick_ok (l.map OX.l) hf i (by omega) x bs hI (el picks i).how (el picks i).at_ (el picks i).ack w0 w [] M) rfl ?_
        rintro _ w ⟨x2, bs2, rfl, hg, hI2, M⟩
        rw [hg]
        refine WL.assign rfl rfl ?_
        refine WL.nil ?_
        refine WX.next ?_
        refine W.sub [(2, _), (3, _), (9, _), (10, _), (11, _)] (.cons rfl (.cons rfl (.cons rfl (.cons rfl (.cons rfl .nil))))) ?_
        refine W.seq ?_
        refine W.region ?_
        refine WL.move rfl rfl ?_
        refine WL.not rfl rfl ?_
        refine WL.nil ?_
        refine WX.next ?_
        refine W.sub [(2, _), (3, _), (9, _), (10, _), (42, _)] (.cons rfl (.cons rfl (.cons rfl (.cons rfl (.cons rfl .nil))))) ?_
        refine W.cond rfl (fun c4 => ?_) (fun c4 => ?_)
        · (try simp only [Bool.not_eq_true'] at c4); (try simp only [Bool.not_eq_false'] at c4); (try simp only [decide_eq_true_eq] at c4); (try simp only [decide_eq_false_iff_not] at c4)
          exact absurd c4 (by decide)
        · (try simp only [Bool.not_eq_true'] at c4); (try simp only [Bool.not_eq_false'] at c4); (try simp only [decide_eq_true_eq] at c4); (try simp only [decide_eq_false_iff_not] at c4)
          refine W.skip ?_
          refine WX.blockNormal ?_
          refine WX.next ?_
          refine W.region ?_
          refine WL.move rfl rfl ?_
          refine WL.add rfl rfl (by first | exact wI64 (by omega) | rfl) rfl ?_
          refine WL.assign rfl rfl ?_
          refine WL.nil ?_
          refine WX.round ((i + 1, x2, bs2)) (by (repeat' (first | exact envSub.nil | refine envSub.cons ?_ ?_)) <;> first | rfl | (refine congrArg some ?_; refine congrArg (Value.int _) ?_; first | omega | (dsimp only; omega)) | (simp; done) | (refine congrArg some ?_; dsimp only; congr 1; omega) | (simp; omega)) ⟨M.sel (by first | ((repeat (first | with_reducible exact Sel.refl | with_reducible exact Sel.nil | with_reducible exact Del.here | with_reducible apply Del.there | with_reducible apply Sel.cons | with_reducible apply Sel.drop)); done) | (repeat (first | exact Sel.refl | exact Sel.nil | exact Del.here | apply Del.there | apply Sel.cons | apply Sel.drop))), ⟨by dsimp only; omega, hI2⟩⟩ (by first | omega | (dsimp only; omega))
      · refine W.exit ?_
        refine WX.thenExit ?_
        refine WX.thenExit ?_
        refine WX.blockHere ?_
        refine WX.next ?_
        refine W.seq ?_
        refine W.seq ?_
        refine W.region ?_
        refine WL.assign rfl rfl ?_
        refine WL.nil ?_
        refine WX.next ?_
        refine W.sub [(2, _), (9, _), (12, _)] (.cons rfl (.cons rfl (.cons rfl .nil))) ?_
        refine W.block ?_
        refine W.loop (ι := Nat × LnX × List SX) (fun z => [(2, .slice A0 l.length k0), (9, .pointer (some ⟨z.2.1.g, 0, none⟩)), (12, .int .i64 (z.1 : Int))]) (fun zz w => Mem w0 w ((fun z => z.2.1.L ++ [Asr.star (z.2.2.map SX.O)]) zz) ∧ (fun z => z.1 + phi z.2.1.s ≤ 4 * l.length ∧ z.2.1.inv2 (l.map OX.l) z.1 z.2.2) zz) (fun z => 4 * l.length - z.1) ((0, x, bs)) (by (repeat' (first | exact envSub.nil | refine envSub.cons ?_ ?_)) <;> first | rfl | (refine congrArg some ?_; refine congrArg (Value.int _) ?_; first | omega | (dsimp only; omega)) | (simp; done) | (refine congrArg some ?_; dsimp only; congr 1; omega) | (simp; omega)) ⟨M, ⟨by have h1 := phi_le hI.inv.s; have h2 := hI.inv.s.len; rw [List.length_map] at h2; dsimp only [LnX.n] at h1 h2 ⊢; omega, hI.inv2 hi⟩⟩ ?_
        clear M; rintro (⟨k, ⟨g, gs, As, cs, ps, s, gr, gm, ms, r, At, ct, to, Ab, cb, back, Ao, co, out⟩, bs1⟩) w ⟨M, ⟨hph, ⟨⟨his, hms⟩, hinv, hnow, hto, hback, hsub⟩⟩⟩; dsimp only at M hph his hms hinv hnow hto hback hsub ⊢
        refine W.sub [(2, _), (9, _), (12, _)] (.cons rfl (.cons rfl (.cons rfl .nil))) ?_
        refine W.seq ?_
        refine W.seq ?_
        unfold LnX.L LnX.row at M
        simp only [List.cons_append, List.nil_append] at M
        have hinv0 := hinv
        obtain ⟨hS, hR, hack, hout, htoI, hbackI⟩ := hinv
        dsimp only [LnX.n] at hinv0 hph his hms hnow hto hback hsub hS hR hack hout htoI hbackI M ⊢
        have hP := SnX.is.len his
        have hSl := hS.len
        have hRg := hR.got
        have hml := hR.mlen
        rw [List.length_map] at hSl hRg hml
        dsimp only at hP
        have hol : out.length ≤ 60 := by have := congrArg List.length hout; simp at this; omega
        refine W.region ?_
        refine WL.move rfl rfl ?_
        refine WL.move rfl rfl ?_
        refine WL.len Try.underlying33 rfl rfl ?_
        refine WL.add rfl rfl (by first | exact wI64 (by omega) | rfl) rfl ?_
        refine WL.mul rfl rfl (by first | exact wI64 (by omega) | rfl) rfl ?_
        refine WL.lss rfl rfl rfl ?_
        refine WL.moveIf rfl rfl (fun c5 => ?_) (fun c5 => ?_)
        · refine WL.on rfl rfl ?_
          refine WL.move rfl rfl ?_
          refine WL.on rfl rfl ?_
          refine WL.nilCheck rfl rfl ?_
          refine WL.on rfl rfl ?_
          refine WL.fieldR (off := 0) Try.underlying62 rfl rfl Try.sizeOf24 rfl rfl rfl ?_
          refine WL.on rfl rfl ?_
          refine WL.loadR Try.isAgg24 rfl M (by first | ((repeat (first | with_reducible exact Has.here | with_reducible refine Has.there ?_)); done) | (repeat (first | exact Has.here | refine Has.there ?_))) rfl rfl ?_
          refine WL.on rfl rfl ?_
          refine WL.call Try.call24 rfl (Left_ok ⟨gs, As, cs, ps, s⟩ _ _ _ _ M (by first | ((repeat (first | with_reducible exact Del.here | with_reducible apply Del.there)); done) | (repeat (first | exact Del.here | apply Del.there)))) rfl ?_
          rintro _ _ ⟨rfl, rfl⟩
          refine WL.on rfl rfl ?_
          refine WL.gtr rfl rfl rfl ?_
          refine WL.pickT rfl rfl rfl ?_
          refine WL.nil ?_
          refine WX.next ?_
          refine W.sub [(2, _), (9, _), (12, _), (56, _)] (.cons rfl (.cons rfl (.cons rfl (.cons rfl .nil)))) ?_
          refine W.ite rfl (fun c6 => ?_) (fun c6 => ?_)
          · dsimp only at c6
            refine W.skip ?_
            refine WX.next ?_
            refine W.seq ?_
            refine W.block ?_
            refine W.seq ?_
            refine W.drawM ([Asr.row g 62 [.pointer (some ⟨gs, 0, none⟩), .pointer (some ⟨gr, 0, none⟩), .slice At to.length ct, .slice Ab back.length cb, .slice Ao out.length co]]) (by kernel_rfl) (fun j => [4, 8, 9].contains j) M (by first | ((repeat (first | with_reducible exact Sel.refl | with_reducible exact Sel.nil | with_reducible exact Del.here | with_reducible apply Del.there | with_reducible apply Sel.cons | with_reducible apply Sel.drop)); done) | (repeat (first | exact Sel.refl | exact Sel.nil | exact Del.here | apply Del.there | apply Sel.cons | apply Sel.drop))) ?_
            clear M; intro M
            apply DG.pure_ [0, 1, 2, 3, 5, 6, 7] 7 rfl (by kernel_rfl) (by kernel_rfl)
            · intro w
              refine WL.move rfl rfl ?_
              refine WL.move rfl rfl ?_
              refine WL.nilCheck rfl rfl ?_
              refine WL.fieldR (off := 2) Try.underlying62 rfl rfl Try.sizeOf45 rfl rfl rfl ?_
              refine WL.move rfl rfl ?_
              refine WL.nilCheck rfl rfl ?_
              refine WL.fieldR (off := 0) Try.underlying62 rfl rfl Try.sizeOf24 rfl rfl rfl ?_
              exact Chain.end_ rfl
            apply DG.take [4, 8] 5 rfl (by kernel_rfl) (by kernel_rfl) (M.sel (by first | ((repeat (first | with_reducible exact Sel.refl | with_reducible exact Sel.nil | with_reducible exact Del.here | with_reducible apply Del.there | with_reducible apply Sel.cons | with_reducible apply Sel.drop)); done) | (repeat (first | exact Sel.refl | exact Sel.nil | exact Del.here | apply Del.there | apply Sel.cons | apply Sel.drop))))
            · intro w M
              refine WL.loadR Try.isAgg45 rfl M (by first | ((repeat (first | with_reducible exact Has.here | with_reducible refine Has.there ?_)); done) | (repeat (first | exact Has.here | refine Has.there ?_))) rfl rfl ?_
              refine WL.loadR Try.isAgg24 rfl M (by first | ((repeat (first | with_reducible exact Has.here | with_reducible refine Has.there ?_)); done) | (repeat (first | exact Has.here | refine Has.there ?_))) rfl rfl ?_
              exact Chain.end_ rfl
            refine DG.step 9 4 rfl (by kernel_rfl) ?_
            refine WL.call Try.call19 rfl (Tick2 ⟨gs, As, cs, ps, s⟩ his (hS.ok hf (by omega)) _ _ _ _ M (by first | ((repeat (first | with_reducible exact Del.here | with_reducible apply Del.there)); done) | (repeat (first | exact Del.here | apply Del.there)))) rfl ?_
            rintro _ w ⟨B2, cB2, ps2, Ao2, co2, outs, rfl, his2, houts, M⟩
            dsimp only at his2 houts M
            have hol1 := congrArg List.length houts
            rw [List.length_map] at hol1
            have hol2 := tickO_len s
            have hw8 := hS.win
            refine DG.go (G := fun j => [4, 8, 9].contains j) (i := 9) (f' := 4) (done := [0, 1, 2, 3, 5, 6, 7, 4, 8]) (fun _ => M.sel (by first | ((repeat (first | with_reducible exact Sel.refl | with_reducible exact Sel.nil | with_reducible exact Del.here | with_reducible apply Del.there | with_reducible apply Sel.cons | with_reducible apply Sel.drop)); done) | (repeat (first | exact Sel.refl | exact Sel.nil | exact Del.here | apply Del.there | apply Sel.cons | apply Sel.drop)))) ?_
            refine DG.step 10 3 rfl (by kernel_rfl) ?_
            refine WL.appendL (E := segE) Try.elem36 rfl rfl M (by first | ((repeat (first | with_reducible exact Del.here | with_reducible apply Del.there)); done) | (repeat (first | exact Del.here | apply Del.there))) (by first | with_reducible assumption | with_reducible exact RdL.mem (by with_reducible assumption) M | exact M.rdL (by first | ((repeat (first | with_reducible exact Has.here | with_reducible refine Has.there ?_)); done) | (repeat (first | exact Has.here | refine Has.there ?_))) | exact RdLH.at (by assumption) (M.sel (by first | ((repeat (first | with_reducible exact Sel.refl | with_reducible exact Sel.nil | with_reducible exact Del.here | with_reducible apply Del.there | with_reducible apply Sel.cons | with_reducible apply Sel.drop)); done) | (repeat (first | exact Sel.refl | exact Sel.nil | exact Del.here | apply Del.there | apply Sel.cons | apply Sel.drop)))) | exact RdL.nil _ _ _) rfl rfl (by first | omega | (simp; done) | (simp; omega)) (by first | (simp only [maxLen]; omega) | (simp [maxLen]; done) | (simp [maxLen]; omega)) rfl ?_
            intro A15_10 cap15_10 w M
            refine DG.go (G := fun j => [4, 8, 9].contains j) (i := 10) (f' := 3) (done := [0, 1, 2, 3, 5, 6, 7, 4, 8, 9]) (fun h => by cases h) ?_
            apply DG.pure_ [11, 12] 1 rfl (by kernel_rfl) (by kernel_rfl)
            · intro w
              refine WL.nilCheck rfl rfl ?_
              refine WL.fieldR (off := 2) Try.underlying62 rfl rfl Try.sizeOf45 rfl rfl rfl ?_
              exact Chain.end_ rfl
            refine DG.step 13 0 rfl (by kernel_rfl) ?_
            refine WL.storeR Try.sizeOf45 rfl rfl rfl M (by first | ((repeat (first | with_reducible exact Has.here | with_reducible refine Has.there ?_)); done) | (repeat (first | exact Has.here | refine Has.there ?_))) (by repeat (first | exact SetAt.zero | apply SetAt.succ)) (by first | ((repeat (first | with_reducible exact Upd.here | with_reducible apply Upd.there)); done) | (repeat (first | exact Upd.here | apply Upd.there))) ?_
            intro w M
            refine DG.go (G := fun j => [4, 8, 9].contains j) (i := 13) (f' := 0) (done := [0, 1, 2, 3, 5, 6, 7, 4, 8, 9, 10, 11, 12]) (fun h => by cases h) ?_
            refine DG.end_ (by kernel_rfl) ?_
            refine WX.next ?_
            refine W.sub [(2, _), (9, _), (12, _)] (.cons rfl (.cons rfl (.cons rfl .nil))) ?_
            refine W.seq ?_
            refine W.seq ?_
            have M5 := Mem.starJoin (M.sel (K := Asr.star (bs1.map SX.O) :: Asr.star (outs.map SX.O) :: Asr.row g 62 _ :: SnX.O ⟨gs, B2, cB2, ps2, tickS s⟩ :: (RcX.of gr gm ms r).O :: Asr.lst segE A15_10 cap15_10 (to ++ outs) :: Asr.lst segE Ab cb back :: Asr.lst oxE Ao co out :: [Asr.star (out.map OX.O)]) (by first | ((repeat (first | with_reducible exact Sel.refl | with_reducible exact Sel.nil | with_reducible exact Del.here | with_reducible apply Del.there | with_reducible apply Sel.cons | with_reducible apply Sel.drop)); done) | (repeat (first | exact Sel.refl | exact Sel.nil | exact Del.here | apply Del.there | apply Sel.cons | apply Sel.drop))))
            rw [← List.map_append] at M5
            have hT := hinv0.tick
            unfold pickT at hT
            dsimp only at hT
            rw [← houts, ← List.map_append] at hT
            have hlen : (to ++ outs).length ≤ 808 := by rw [List.length_append]; unfold Sn.k at hol2; omega
            have hsub2 : ∀ q ∈ to ++ outs, q ∈ bs1 ++ outs := fun q h => List.mem_append.2 ((List.mem_append.1 h).imp (hsub q) id)
            have hfst : due s.span (s.now + 1) (el s.l 0) = true → ∃ j, j < (to ++ outs).length ∧ (el (to ++ outs) j).seq = s.acked + 1 := by
              intro hd
              have h1 := tick_first hS (by omega) hd
              rw [← houts] at h1
              obtain ⟨t, ht, et⟩ := List.mem_map.1 h1
              obtain ⟨j, hj, e⟩ := mem_el (List.mem_append.2 (.inr ht) : t ∈ to ++ outs)
              exact ⟨j, hj, by rw [e]; exact congrArg (fun z : Key => z.2.1) et⟩
            replace M := M5
            generalize to ++ outs = T at hT hlen hsub2 hfst M ⊢
            generalize bs1 ++ outs = bs2 at hsub2 M ⊢
            have hsok := hT.s.ok hf (show s.now + 1 < 1000000000 by omega)
            refine W.region ?_
            refine WL.assign rfl rfl ?_
            refine WL.nil ?_
            refine WX.next ?_
            refine W.sub [(2, _), (9, _), (12, _), (13, _)] (.cons rfl (.cons rfl (.cons rfl (.cons rfl .nil)))) ?_
            refine W.block ?_
            refine W.loop (ι := Nat × (Option Addr × Nat × List PX) × (Nat × List (Nat × OX) × Rc) × (Option Addr × Nat × List SX) × (Option Addr × Nat × List OX)) (fun z => [(2, .slice A0 l.length k0), (9, .pointer (some ⟨g, 0, none⟩)), (12, .int .i64 (k : Int)), (13, .int .i64 (z.1 : Int))]) (fun zz w => Mem w0 w ((fun z => [Asr.row g 62 [.pointer (some ⟨gs, 0, none⟩), .pointer (some ⟨gr, 0, none⟩), .slice A15_10 T.length cap15_10, .slice z.2.2.2.1.1 z.2.2.2.1.2.2.length z.2.2.2.1.2.1, .slice z.2.2.2.2.1 z.2.2.2.2.2.2.length z.2.2.2.2.2.1], SnX.O ⟨gs, z.2.1.1, z.2.1.2.1, z.2.1.2.2, tickS s⟩, (RcX.of gr z.2.2.1.1 z.2.2.1.2.1 z.2.2.1.2.2).O, Asr.lst segE A15_10 cap15_10 T, Asr.lst segE z.2.2.2.1.1 z.2.2.2.1.2.1 z.2.2.2.1.2.2, Asr.lst oxE z.2.2.2.2.1 z.2.2.2.2.2.1 z.2.2.2.2.2.2, Asr.star (z.2.2.2.2.2.2.map OX.O), Asr.star (bs2.map SX.O)]) zz) ∧ (fun z => z.1 ≤ T.length ∧ SnX.is ⟨gs, z.2.1.1, z.2.1.2.1, z.2.1.2.2, tickS s⟩ ∧ mmap OX.l z.2.2.1.2.1 = z.2.2.1.2.2.m ∧ Inv (l.map OX.l) ⟨tickS s, z.2.2.1.2.2, T.map SX.key, z.2.2.2.1.2.2.map SX.key, z.2.2.2.2.2.2.map OX.l⟩ ∧ z.2.2.2.1.2.2.length ≤ 100 + z.1 ∧ (∀ i, i < z.1 → (el T i).seq ≤ s.acked + 1 → ∃ q ∈ z.2.2.2.1.2.2.map SX.key, (el T i).seq ≤ q.2.1)) zz) (fun z => T.length - z.1) ((0, (B2, cB2, ps2), (gm, ms, r), (Ab, cb, back), (Ao, co, out))) (by (repeat' (first | exact envSub.nil | refine envSub.cons ?_ ?_)) <;> first | rfl | (refine congrArg some ?_; refine congrArg (Value.int _) ?_; first | omega | (dsimp only; omega)) | (simp; done) | (refine congrArg some ?_; dsimp only; congr 1; omega) | (simp; omega)) ⟨M.sel (by first | ((repeat (first | with_reducible exact Sel.refl | with_reducible exact Sel.nil | with_reducible exact Del.here | with_reducible apply Del.there | with_reducible apply Sel.cons | with_reducible apply Sel.drop)); done) | (repeat (first | exact Sel.refl | exact Sel.nil | exact Del.here | apply Del.there | apply Sel.cons | apply Sel.drop))), ⟨by simp, his2, hms, hT, by dsimp only; omega, fun i hi => absurd hi (Nat.not_lt_zero _)⟩⟩ ?_
            clear M; rintro (⟨j, ⟨B3, cB3, ps3⟩, ⟨gm3, ms3, r3⟩, ⟨Ab3, cb3, back3⟩, Ao3, co3, out3⟩) w ⟨M, ⟨hj, his3, hms3, hI3, hb3, hrc3⟩⟩; dsimp only at M hj his3 hms3 hI3 hb3 hrc3 ⊢
            refine W.sub [(2, _), (9, _), (12, _), (13, _)] (.cons rfl (.cons rfl (.cons rfl (.cons rfl .nil)))) ?_
            refine W.seq ?_
            refine W.seq ?_
            refine W.region ?_
            refine WL.move rfl rfl ?_
            refine WL.move rfl rfl ?_
            refine WL.nilCheck rfl rfl ?_
            refine WL.fieldR (off := 2) Try.underlying62 rfl rfl Try.sizeOf45 rfl rfl rfl ?_
            refine WL.loadR Try.isAgg45 rfl M (by first | ((repeat (first | with_reducible exact Has.here | with_reducible refine Has.there ?_)); done) | (repeat (first | exact Has.here | refine Has.there ?_))) rfl rfl ?_
            refine WL.len Try.underlying45 rfl rfl ?_
            refine WL.lss rfl rfl rfl ?_
            refine WL.nil ?_
            refine WX.next ?_
            refine W.sub [(2, _), (9, _), (12, _), (13, _), (78, _)] (.cons rfl (.cons rfl (.cons rfl (.cons rfl (.cons rfl .nil))))) ?_
            refine W.ite rfl (fun c7 => ?_) (fun c7 => ?_)
            · have hq3 := hI3.to (el T j).key (List.mem_map.2 ⟨_, el_mem (by omega), rfl⟩)
              have hml3 := hI3.r.mlen
              have hol3 : out3.length ≤ 60 := by have h1 := congrArg List.length hI3.out; have h2 := hf.1; simp at h1 h2; omega
              have hf60 := hf.1
              have hb5 : (el T j).life < 18446744073709551616 ∧ (el T j).seq < 18446744073709551616 := by
                obtain ⟨a1, _, k, a2, a3, _⟩ := hq3
                dsimp only [SX.key] at a1 a3
                exact ⟨by omega, by omega⟩
              have hcm := hI3.come hf hq3
              have hrch := (hI3.r.come hf hq3).reach
              refine W.skip ?_
              refine WX.next ?_
              refine W.seq ?_
              refine W.block ?_
              refine W.region ?_
              refine WL.move rfl rfl ?_
              refine WL.move rfl rfl ?_
              refine WL.nilCheck rfl rfl ?_
              refine WL.fieldR (off := 2) Try.underlying62 rfl rfl Try.sizeOf45 rfl rfl rfl ?_
              refine WL.loadR Try.isAgg45 rfl M (by first | ((repeat (first | with_reducible exact Has.here | with_reducible refine Has.there ?_)); done) | (repeat (first | exact Has.here | refine Has.there ?_))) rfl rfl ?_
              refine WL.move rfl rfl ?_
              refine WL.idxA Try.underlying45 Try.sizeOf36 rfl rfl (RdL.isSome (E := segE) (by first | with_reducible assumption | with_reducible exact RdL.mem (by with_reducible assumption) M | exact M.rdL (by first | ((repeat (first | with_reducible exact Has.here | with_reducible refine Has.there ?_)); done) | (repeat (first | exact Has.here | refine Has.there ?_))) | exact RdLH.at (by assumption) (M.sel (by first | ((repeat (first | with_reducible exact Sel.refl | with_reducible exact Sel.nil | with_reducible exact Del.here | with_reducible apply Del.there | with_reducible apply Sel.cons | with_reducible apply Sel.drop)); done) | (repeat (first | exact Sel.refl | exact Sel.nil | exact Del.here | apply Del.there | apply Sel.cons | apply Sel.drop)))) | exact RdL.nil _ _ _) (by omega)) (by omega) (by omega) (by first | exact rfl | exact (Int.toNat_of_nonneg (by omega)).symm) rfl ?_
              refine WL.loadL (E := segE) (cs := [_, _, _, _]) Try.isAgg36 Try.sizeOf36 rfl (by first | with_reducible assumption | with_reducible exact RdL.mem (by with_reducible assumption) M | exact M.rdL (by first | ((repeat (first | with_reducible exact Has.here | with_reducible refine Has.there ?_)); done) | (repeat (first | exact Has.here | refine Has.there ?_))) | exact RdLH.at (by assumption) (M.sel (by first | ((repeat (first | with_reducible exact Sel.refl | with_reducible exact Sel.nil | with_reducible exact Del.here | with_reducible apply Del.there | with_reducible apply Sel.cons | with_reducible apply Sel.drop)); done) | (repeat (first | exact Sel.refl | exact Sel.nil | exact Del.here | apply Del.there | apply Sel.cons | apply Sel.drop)))) | exact RdL.nil _ _ _) rfl (by omega) rfl rfl ?_
              refine WL.call Try.call30 rfl (comesT_ok ⟨g, gs, B3, cB3, ps3, tickS s, gr, gm3, ms3, r3, A15_10, cap15_10, T, Ab3, cb3, back3, Ao3, co3, out3⟩ ⟨his3, hms3⟩ hsok (hI3.r.ok hf) (el T j) hb5.1 hb5.2 (by dsimp only; omega) (by dsimp only; omega) (by dsimp only at hml3 ⊢; omega) w0 w [Asr.star (bs2.map SX.O)] (M.sel (by first | ((repeat (first | with_reducible exact Sel.refl | with_reducible exact Sel.nil | with_reducible exact Del.here | with_reducible apply Del.there | with_reducible apply Sel.cons | with_reducible apply Sel.drop)); done) | (repeat (first | exact Sel.refl | exact Sel.nil | exact Del.here | apply Del.there | apply Sel.cons | apply Sel.drop)))) (fun w M => ownRd (M.starHas (f := SX.O) (by first | ((repeat (first | with_reducible exact Has.here | with_reducible refine Has.there ?_)); done) | (repeat (first | exact Has.here | refine Has.there ?_))) (hsub2 _ (el_mem (by omega)))))) rfl ?_
              rintro _ w ⟨B4, cB4, ps4, gm4, ms4, Ab4, cb4, back4, Ao4, co4, out4, rfl, ⟨his4, hms4⟩, hbk4, hot4, M⟩
              obtain ⟨_, hI4⟩ := hcm
              unfold comeT at hI4
              dsimp only at hI4 hrch his4 hms4 hbk4 hot4
              rw [← hbk4, ← hot4] at hI4
              have hb4 : back4.length ≤ 100 + (j + 1) := by have := congrArg List.length hbk4; simp at this; omega
              have hrc4 : ∀ i, i < j + 1 → (el T i).seq ≤ s.acked + 1 → ∃ q ∈ back4.map SX.key, (el T i).seq ≤ q.2.1 := by
                intro i hi he
                rw [hbk4]
                rcases Nat.lt_or_ge i j with h | h
                · obtain ⟨q, hq, e⟩ := hrc3 i h he
                  exact ⟨q, List.mem_append.2 (.inl hq), e⟩
                · obtain rfl : i = j := by omega
                  refine ⟨_, List.mem_append.2 (.inr (List.mem_singleton.2 rfl)), hrch ?_⟩
                  have h1 := hI3.ack
                  dsimp only at h1
                  exact Nat.le_trans he (Nat.succ_le_succ h1)
              refine WL.nil ?_
              refine WX.blockNormal ?_
              refine WX.next ?_
              refine W.sub [(2, _), (9, _), (12, _), (13, _)] (.cons rfl (.cons rfl (.cons rfl (.cons rfl .nil)))) ?_
              refine W.region ?_
              refine WL.move rfl rfl ?_
              refine WL.add rfl rfl (by first | exact wI64 (by omega) | rfl) rfl ?_
              refine WL.assign rfl rfl ?_
              refine WL.nil ?_
              refine WX.round ((j + 1, (B4, cB4, ps4), (gm4, ms4, rhS r3 (el T j).key), (Ab4, cb4, back4), (Ao4, co4, out4))) (by (repeat' (first | exact envSub.nil | refine envSub.cons ?_ ?_)) <;> first | rfl | (refine congrArg some ?_; refine congrArg (Value.int _) ?_; first | omega | (dsimp only; omega)) | (simp; done) | (refine congrArg some ?_; dsimp only; congr 1; omega) | (simp; omega)) ⟨M.sel (by first | ((repeat (first | with_reducible exact Sel.refl | with_reducible exact Sel.nil | with_reducible exact Del.here | with_reducible apply Del.there | with_reducible apply Sel.cons | with_reducible apply Sel.drop)); done) | (repeat (first | exact Sel.refl | exact Sel.nil | exact Del.here | apply Del.there | apply Sel.cons | apply Sel.drop))), ⟨by dsimp only; omega, his4, hms4, hI4, hb4, hrc4⟩⟩ (by first | omega | (dsimp only; omega))
            · obtain rfl : j = T.length := by omega
              refine W.exit ?_
              refine WX.thenExit ?_
              refine WX.thenExit ?_
              refine WX.blockHere ?_
              refine WX.next ?_
              refine W.seq ?_
              refine W.region ?_
              refine WL.move rfl rfl ?_
              refine WL.nilCheck rfl rfl ?_
              refine WL.fieldR (off := 2) Try.underlying62 rfl rfl Try.sizeOf45 rfl rfl rfl ?_
              refine WL.storeR Try.sizeOf45 rfl rfl rfl M (by first | ((repeat (first | with_reducible exact Has.here | with_reducible refine Has.there ?_)); done) | (repeat (first | exact Has.here | refine Has.there ?_))) (by repeat (first | exact SetAt.zero | apply SetAt.succ)) (by first | ((repeat (first | with_reducible exact Upd.here | with_reducible apply Upd.there)); done) | (repeat (first | exact Upd.here | apply Upd.there))) ?_
              intro w M
              refine WL.nil ?_
              refine WX.next ?_
              refine W.sub [(2, _), (9, _), (12, _)] (.cons rfl (.cons rfl (.cons rfl .nil))) ?_
              refine W.seq ?_
              refine W.seq ?_
              have M6 := (Mem.nilOwn M 36 4)
              have hI6 : Inv (l.map OX.l) ⟨tickS s, r3, [], back3.map SX.key, out3.map OX.l⟩ := ⟨hI3.s, hI3.r, hI3.ack, hI3.out, (fun q h => by cases h), hI3.back⟩
              obtain ⟨K, hK⟩ : ∃ K, back3.map SX.key = K := ⟨_, rfl⟩
              rw [hK] at hI6 hrc3
              have hml3 := hI3.r.mlen
              have hol3 : out3.length ≤ 60 := by have h1 := congrArg List.length hI3.out; have h2 := hf.1; simp at h1 h2; omega
              have hKl : K.length ≤ 1000 := by rw [← hK, List.length_map]; omega
              refine W.region ?_
              refine WL.assign rfl rfl ?_
              refine WL.nil ?_
              refine WX.next ?_
              refine W.sub [(2, _), (9, _), (12, _), (14, _)] (.cons rfl (.cons rfl (.cons rfl (.cons rfl .nil)))) ?_
              refine W.block ?_
              refine W.loop (ι := Nat × (Option Addr × Nat × List PX × Sn) × (Nat × List (Nat × OX)) × (Option Addr × Nat × List SX) × (Option Addr × Nat × List OX)) (fun z => [(2, .slice A0 l.length k0), (9, .pointer (some ⟨g, 0, none⟩)), (12, .int .i64 (k : Int)), (14, .int .i64 (z.1 : Int))]) (fun zz w => Mem w0 w ((fun z => [Asr.row g 62 [.pointer (some ⟨gs, 0, none⟩), .pointer (some ⟨gr, 0, none⟩), .slice none 0 0, .slice z.2.2.2.1.1 z.2.2.2.1.2.2.length z.2.2.2.1.2.1, .slice z.2.2.2.2.1 z.2.2.2.2.2.2.length z.2.2.2.2.2.1], SnX.O ⟨gs, z.2.1.1, z.2.1.2.1, z.2.1.2.2.1, z.2.1.2.2.2⟩, (RcX.of gr z.2.2.1.1 z.2.2.1.2 r3).O, Asr.lst segE none 0 [], Asr.lst segE z.2.2.2.1.1 z.2.2.2.1.2.1 z.2.2.2.1.2.2, Asr.lst oxE z.2.2.2.2.1 z.2.2.2.2.2.1 z.2.2.2.2.2.2, Asr.star (z.2.2.2.2.2.2.map OX.O), Asr.star (bs2.map SX.O)]) zz) ∧ (fun z => z.1 ≤ K.length ∧ SnX.is ⟨gs, z.2.1.1, z.2.1.2.1, z.2.1.2.2.1, z.2.1.2.2.2⟩ ∧ mmap OX.l z.2.2.1.2 = r3.m ∧ Inv (l.map OX.l) ⟨z.2.1.2.2.2, r3, [], K, z.2.2.2.2.2.2.map OX.l⟩ ∧ z.2.2.2.1.2.2.map SX.key = K ∧ (z.2.1.2.2.2 = tickS s ∨ s.acked < z.2.1.2.2.2.acked) ∧ z.2.1.2.2.2.now = s.now + 1 ∧ (∀ i, i < z.1 → (el K i).2.1 ≤ z.2.1.2.2.2.acked)) zz) (fun z => K.length - z.1) ((0, (B3, cB3, ps3, tickS s), (gm3, ms3), (Ab3, cb3, back3), (Ao3, co3, out3))) (by (repeat' (first | exact envSub.nil | refine envSub.cons ?_ ?_)) <;> first | rfl | (refine congrArg some ?_; refine congrArg (Value.int _) ?_; first | omega | (dsimp only; omega)) | (simp; done) | (refine congrArg some ?_; dsimp only; congr 1; omega) | (simp; omega)) ⟨M6.sel (by first | ((repeat (first | with_reducible exact Sel.refl | with_reducible exact Sel.nil | with_reducible exact Del.here | with_reducible apply Del.there | with_reducible apply Sel.cons | with_reducible apply Sel.drop)); done) | (repeat (first | exact Sel.refl | exact Sel.nil | exact Del.here | apply Del.there | apply Sel.cons | apply Sel.drop))), ⟨by simp, his3, hms3, hI6, hK, .inl rfl, rfl, fun i hi => absurd hi (Nat.not_lt_zero _)⟩⟩ ?_
              clear M; rintro (⟨j, ⟨B5, cB5, ps5, s5⟩, ⟨gm5, ms5⟩, ⟨Ab5, cb5, back5⟩, Ao5, co5, out5⟩) w ⟨M, ⟨hj, his5, hms5, hI5, hK5, hd5, hn5, hrc5⟩⟩; dsimp only at M hj his5 hms5 hI5 hK5 hd5 hn5 hrc5 ⊢
              refine W.sub [(2, _), (9, _), (12, _), (14, _)] (.cons rfl (.cons rfl (.cons rfl (.cons rfl .nil)))) ?_
              refine W.seq ?_
              refine W.seq ?_
              have hKb : back5.length = K.length := by rw [← hK5, List.length_map]
              refine W.region ?_
              refine WL.move rfl rfl ?_
              refine WL.move rfl rfl ?_
              refine WL.nilCheck rfl rfl ?_
              refine WL.fieldR (off := 3) Try.underlying62 rfl rfl Try.sizeOf45 rfl rfl rfl ?_
              refine WL.loadR Try.isAgg45 rfl M (by first | ((repeat (first | with_reducible exact Has.here | with_reducible refine Has.there ?_)); done) | (repeat (first | exact Has.here | refine Has.there ?_))) rfl rfl ?_
              refine WL.len Try.underlying45 rfl rfl ?_
              refine WL.lss rfl rfl rfl ?_
              refine WL.nil ?_
              refine WX.next ?_
              refine W.sub [(2, _), (9, _), (12, _), (14, _), (99, _)] (.cons rfl (.cons rfl (.cons rfl (.cons rfl (.cons rfl .nil))))) ?_
              refine W.ite rfl (fun c8 => ?_) (fun c8 => ?_)
              · have hkey : el K j = (el back5 j).key := by rw [← hK5, el_map SX.key (by omega)]
                have hq5 := hI5.back (el K j) (el_mem (l := K) (by omega))
                have hol5 : out5.length ≤ 60 := by have h1 := congrArg List.length hI5.out; have h2 := hf.1; simp at h1 h2; omega
                have hf60 := hf.1
                have hb5 : (el back5 j).life < 18446744073709551616 ∧ (el back5 j).seq < 18446744073709551616 := by
                  rw [hkey] at hq5
                  obtain ⟨a1, _, _, a3⟩ := hq5
                  dsimp only [SX.key] at a1 a3
                  have := hI5.r.got
                  dsimp only at this
                  exact ⟨by omega, by omega⟩
                obtain ⟨_, hI7⟩ := hI5.hear hq5
                obtain ⟨_, _, _, hge, hmo, hnw⟩ := hI5.s.hear hI5.r.got hI5.ack hq5
                unfold comeB at hI7
                dsimp only at hI7 hge hmo hnw
                refine W.skip ?_
                refine WX.next ?_
                refine W.seq ?_
                refine W.block ?_
                refine W.region ?_
                refine WL.move rfl rfl ?_
                refine WL.move rfl rfl ?_
                refine WL.nilCheck rfl rfl ?_
                refine WL.fieldR (off := 3) Try.underlying62 rfl rfl Try.sizeOf45 rfl rfl rfl ?_
                refine WL.loadR Try.isAgg45 rfl M (by first | ((repeat (first | with_reducible exact Has.here | with_reducible refine Has.there ?_)); done) | (repeat (first | exact Has.here | refine Has.there ?_))) rfl rfl ?_
                refine WL.move rfl rfl ?_
                refine WL.idxA Try.underlying45 Try.sizeOf36 rfl rfl (RdL.isSome (E := segE) (by first | with_reducible assumption | with_reducible exact RdL.mem (by with_reducible assumption) M | exact M.rdL (by first | ((repeat (first | with_reducible exact Has.here | with_reducible refine Has.there ?_)); done) | (repeat (first | exact Has.here | refine Has.there ?_))) | exact RdLH.at (by assumption) (M.sel (by first | ((repeat (first | with_reducible exact Sel.refl | with_reducible exact Sel.nil | with_reducible exact Del.here | with_reducible apply Del.there | with_reducible apply Sel.cons | with_reducible apply Sel.drop)); done) | (repeat (first | exact Sel.refl | exact Sel.nil | exact Del.here | apply Del.there | apply Sel.cons | apply Sel.drop)))) | exact RdL.nil _ _ _) (by omega)) (by omega) (by omega) (by first | exact rfl | exact (Int.toNat_of_nonneg (by omega)).symm) rfl ?_
                refine WL.loadL (E := segE) (cs := [_, _, _, _]) Try.isAgg36 Try.sizeOf36 rfl (by first | with_reducible assumption | with_reducible exact RdL.mem (by with_reducible assumption) M | exact M.rdL (by first | ((repeat (first | with_reducible exact Has.here | with_reducible refine Has.there ?_)); done) | (repeat (first | exact Has.here | refine Has.there ?_))) | exact RdLH.at (by assumption) (M.sel (by first | ((repeat (first | with_reducible exact Sel.refl | with_reducible exact Sel.nil | with_reducible exact Del.here | with_reducible apply Del.there | with_reducible apply Sel.cons | with_reducible apply Sel.drop)); done) | (repeat (first | exact Sel.refl | exact Sel.nil | exact Del.here | apply Del.there | apply Sel.cons | apply Sel.drop)))) | exact RdL.nil _ _ _) rfl (by omega) rfl rfl ?_
                refine WL.call Try.call30 rfl (comesB_ok ⟨g, gs, B5, cB5, ps5, s5, gr, gm5, ms5, r3, none, 0, [], Ab5, cb5, back5, Ao5, co5, out5⟩ ⟨his5, hms5⟩ (hI5.s.ok hf (by dsimp only; omega)) (hI5.r.ok hf) (el back5 j) hb5.1 hb5.2 (by dsimp only; omega) (by dsimp only; omega) (by dsimp only at hml3 ⊢; omega) w0 w [Asr.star (bs2.map SX.O)] (M.sel (by first | ((repeat (first | with_reducible exact Sel.refl | with_reducible exact Sel.nil | with_reducible exact Del.here | with_reducible apply Del.there | with_reducible apply Sel.cons | with_reducible apply Sel.drop)); done) | (repeat (first | exact Sel.refl | exact Sel.nil | exact Del.here | apply Del.there | apply Sel.cons | apply Sel.drop))))) rfl ?_
                rintro _ w ⟨B6, cB6, ps6, gm6, ms6, Ab6, cb6, back6, Ao6, co6, out6, rfl, ⟨his6, hms6⟩, hbk6, hot6, M⟩
                dsimp only at his6 hms6 hbk6 hot6
                rw [List.append_nil] at hbk6 hot6
                rw [← hkey] at his6 M
                rw [← hot6] at hI7
                have hd7 : hearS s5 (el K j) = tickS s ∨ s.acked < (hearS s5 (el K j)).acked := by
                  rcases hd5 with h | h
                  · by_cases hlt : s.acked < (hearS s5 (el K j)).acked
                    · exact .inr hlt
                    · left
                      rw [h]
                      unfold hearS
                      rw [if_neg]
                      rintro ⟨_, h8⟩
                      have h9 : (tickS s).acked = s.acked := rfl
                      rw [h] at hge hlt
                      omega
                  · exact .inr (by omega)
                have hrc7 : ∀ i, i < j + 1 → (el K i).2.1 ≤ (hearS s5 (el K j)).acked := by
                  intro i hi
                  rcases Nat.lt_or_ge i j with h | h
                  · exact Nat.le_trans (hrc5 i h) hmo
                  · obtain rfl : i = j := by omega
                    exact hge
                refine WL.nil ?_
                refine WX.blockNormal ?_
                refine WX.next ?_
                refine W.sub [(2, _), (9, _), (12, _), (14, _)] (.cons rfl (.cons rfl (.cons rfl (.cons rfl .nil)))) ?_
                refine W.region ?_
                refine WL.move rfl rfl ?_
                refine WL.add rfl rfl (by first | exact wI64 (by omega) | rfl) rfl ?_
                refine WL.assign rfl rfl ?_
                refine WL.nil ?_
                refine WX.round ((j + 1, (B6, cB6, ps6, hearS s5 (el K j)), (gm6, ms6), (Ab6, cb6, back6), (Ao6, co6, out6))) (by (repeat' (first | exact envSub.nil | refine envSub.cons ?_ ?_)) <;> first | rfl | (refine congrArg some ?_; refine congrArg (Value.int _) ?_; first | omega | (dsimp only; omega)) | (simp; done) | (refine congrArg some ?_; dsimp only; congr 1; omega) | (simp; omega)) ⟨M.sel (by first | ((repeat (first | with_reducible exact Sel.refl | with_reducible exact Sel.nil | with_reducible exact Del.here | with_reducible apply Del.there | with_reducible apply Sel.cons | with_reducible apply Sel.drop)); done) | (repeat (first | exact Sel.refl | exact Sel.nil | exact Del.here | apply Del.there | apply Sel.cons | apply Sel.drop))), ⟨by dsimp only; omega, his6, hms6, hI7, hbk6.trans hK5, hd7, hnw.trans hn5, hrc7⟩⟩ (by first | omega | (dsimp only; omega))
              · obtain rfl : j = K.length := by omega
                refine W.exit ?_
                refine WX.thenExit ?_
                refine WX.thenExit ?_
                refine WX.blockHere ?_
                refine WX.next ?_
                refine W.region ?_
                refine WL.move rfl rfl ?_
                refine WL.nilCheck rfl rfl ?_
                refine WL.fieldR (off := 3) Try.underlying62 rfl rfl Try.sizeOf45 rfl rfl rfl ?_
                refine WL.storeR Try.sizeOf45 rfl rfl rfl M (by first | ((repeat (first | with_reducible exact Has.here | with_reducible refine Has.there ?_)); done) | (repeat (first | exact Has.here | refine Has.there ?_))) (by repeat (first | exact SetAt.zero | apply SetAt.succ)) (by first | ((repeat (first | with_reducible exact Upd.here | with_reducible apply Upd.there)); done) | (repeat (first | exact Upd.here | apply Upd.there))) ?_
                intro w M
                refine WL.nil ?_
                refine WX.blockNormal ?_
                refine WX.next ?_
                refine W.sub [(2, _), (9, _), (12, _)] (.cons rfl (.cons rfl (.cons rfl .nil))) ?_
                refine W.region ?_
                refine WL.move rfl rfl ?_
                refine WL.add rfl rfl (by first | exact wI64 (by omega) | rfl) rfl ?_
                refine WL.assign rfl rfl ?_
                refine WL.nil ?_
                skip
                have M8 := (Mem.nilOwn M 36 4)
                have hless : phi s5 < phi s := phi_less hS (by omega) hI5.s hd5 (by
                  intro hd
                  obtain ⟨j, hj, e⟩ := hfst hd
                  obtain ⟨q, hq, e2⟩ := hrc3 j hj (by omega)
                  obtain ⟨i, hi, e3⟩ := mem_el hq
                  have h9 := hrc5 i hi
                  rw [e3] at h9
                  omega)
                have hI9 : Inv (l.map OX.l) ⟨s5, r3, [], [], out5.map OX.l⟩ := ⟨hI5.s, hI5.r, hI5.ack, hI5.out, (fun q h => by cases h), fun q h => by cases h⟩
                have hn9 : s5.now ≤ 100 + (k + 1) := by omega
                refine WX.round ((k + 1, ⟨g, gs, B5, cB5, ps5, s5, gr, gm5, ms5, r3, none, 0, [], none, 0, [], Ao5, co5, out5⟩, bs2)) (by (repeat' (first | exact envSub.nil | refine envSub.cons ?_ ?_)) <;> first | rfl | (refine congrArg some ?_; refine congrArg (Value.int _) ?_; first | omega | (dsimp only; omega)) | (simp; done) | (refine congrArg some ?_; dsimp only; congr 1; omega) | (simp; omega)) ⟨M8.sel (by first | ((repeat (first | with_reducible exact Sel.refl | with_reducible exact Sel.nil | with_reducible exact Del.here | with_reducible apply Del.there | with_reducible apply Sel.cons | with_reducible apply Sel.drop)); done) | (repeat (first | exact Sel.refl | exact Sel.nil | exact Del.here | apply Del.there | apply Sel.cons | apply Sel.drop))), ⟨by dsimp only; omega, ⟨⟨his5, hms5⟩, hI9, hn9, (by dsimp only; simp), (by dsimp only; simp), fun q h => by cases h⟩⟩⟩ (by first | omega | (dsimp only; omega))
          · dsimp only at c6
            refine W.exit ?_
            refine WX.thenExit ?_
            refine WX.thenExit ?_
            refine WX.blockHere ?_
            refine WX.next ?_
            refine W.seq ?_
            have hpl : ps.length = 0 := by omega
            have hgl : out.map OX.l = l.map OX.l := by rw [hout, List.take_of_length_le (by rw [List.length_map]; omega)]
            refine W.region ?_
            refine WL.move rfl rfl ?_
            refine WL.nilCheck rfl rfl ?_
            refine WL.fieldR (off := 0) Try.underlying62 rfl rfl Try.sizeOf24 rfl rfl rfl ?_
            refine WL.loadR Try.isAgg24 rfl M (by first | ((repeat (first | with_reducible exact Has.here | with_reducible refine Has.there ?_)); done) | (repeat (first | exact Has.here | refine Has.there ?_))) rfl rfl ?_
            refine WL.call Try.call24 rfl (Left_ok ⟨gs, As, cs, ps, s⟩ _ _ _ _ M (by first | ((repeat (first | with_reducible exact Del.here | with_reducible apply Del.there)); done) | (repeat (first | exact Del.here | apply Del.there)))) rfl ?_
            rintro _ _ ⟨rfl, rfl⟩
            refine WL.eqI rfl rfl rfl ?_
            refine WL.moveIf rfl rfl (fun c9 => ?_) (fun c9 => ?_)
            · refine WL.on rfl rfl ?_
              refine WL.move rfl rfl ?_
              refine WL.on rfl rfl ?_
              refine WL.nilCheck rfl rfl ?_
              refine WL.on rfl rfl ?_
              refine WL.fieldR (off := 4) Try.underlying62 rfl rfl Try.sizeOf33 rfl rfl rfl ?_
              refine WL.on rfl rfl ?_
              refine WL.loadR Try.isAgg33 rfl M (by first | ((repeat (first | with_reducible exact Has.here | with_reducible refine Has.there ?_)); done) | (repeat (first | exact Has.here | refine Has.there ?_))) rfl rfl ?_
              refine WL.on rfl rfl ?_
              refine WL.move rfl rfl ?_
              refine WL.on rfl rfl ?_
              refine WL.call Try.call31 rfl (SameLists_ok (by first | with_reducible assumption | with_reducible exact RdL.mem (by with_reducible assumption) M | exact M.rdL (by first | ((repeat (first | with_reducible exact Has.here | with_reducible refine Has.there ?_)); done) | (repeat (first | exact Has.here | refine Has.there ?_))) | exact RdLH.at (by assumption) (M.sel (by first | ((repeat (first | with_reducible exact Sel.refl | with_reducible exact Sel.nil | with_reducible exact Del.here | with_reducible apply Del.there | with_reducible apply Sel.cons | with_reducible apply Sel.drop)); done) | (repeat (first | exact Sel.refl | exact Sel.nil | exact Del.here | apply Del.there | apply Sel.cons | apply Sel.drop)))) | exact RdL.nil _ _ _) (h0.mem M) (fun o h => ownRd (M.starHas (f := OX.O) (by first | ((repeat (first | with_reducible exact Has.here | with_reducible refine Has.there ?_)); done) | (repeat (first | exact Has.here | refine Has.there ?_))) h)) (fun o h => (hb0 o h).mem M) (by omega)) rfl ?_
              rintro _ w ⟨rfl, m⟩
              replace M := M.call0 m; clear m
              rw [decide_eq_true hgl]
              refine WL.pickT rfl rfl rfl ?_
              refine WL.moveIfB rfl rfl (fun c10 => ?_) (fun c10 => ?_)
              · refine WL.on rfl rfl ?_
                refine WL.call Try.call12 rfl (known7_ok _) rfl ?_
                rintro _ w ⟨rfl, m⟩
                replace M := M.call0 m; clear m
                refine WL.pickT rfl rfl rfl ?_
                refine WL.assign rfl rfl ?_
                refine WL.nil ?_
                refine WX.next ?_
                refine W.sub [(8, _)] (.cons rfl .nil) ?_
                refine W.ret ?_
                refine WX.ret1 rfl rfl ?_
                exact ⟨rfl, M.sel (by first | ((repeat (first | with_reducible exact Sel.refl | with_reducible exact Sel.nil | with_reducible exact Del.here | with_reducible apply Del.there | with_reducible apply Sel.cons | with_reducible apply Sel.drop)); done) | (repeat (first | exact Sel.refl | exact Sel.nil | exact Del.here | apply Del.there | apply Sel.cons | apply Sel.drop)))⟩
              · exact absurd c10 (by decide)
            · exact absurd (by dsimp only; omega) c9
        · exact absurd (by omega) c5
    · refine WL.off rfl rfl rfl rfl ?_
      refine WL.off rfl rfl rfl rfl ?_
      refine WL.pickF rfl rfl rfl ?_
      refine WL.nil ?_
      refine WX.next ?_
      refine W.sub [(2, _), (3, _), (9, _), (10, _), (32, _)] (.cons rfl (.cons rfl (.cons rfl (.cons rfl (.cons rfl .nil))))) ?_
      refine W.condF rfl ?_
      refine W.exit ?_
      refine WX.thenExit ?_
      refine WX.thenExit ?_
      refine WX.blockHere ?_
      refine WX.next ?_
      refine W.seq ?_
      refine W.seq ?_
      refine W.region ?_
      refine WL.assign rfl rfl ?_
      refine WL.nil ?_
      refine WX.next ?_
      refine W.sub [(2, _), (9, _), (12, _)] (.cons rfl (.cons rfl (.cons rfl .nil))) ?_
      refine W.block ?_
      refine W.loop (ι := Nat × LnX × List SX) (fun z => [(2, .slice A0 l.length k0), (9, .pointer (some ⟨z.2.1.g, 0, none⟩)), (12, .int .i64 (z.1 : Int))]) (fun zz w => Mem w0 w ((fun z => z.2.1.L ++ [Asr.star (z.2.2.map SX.O)]) zz) ∧ (fun z => z.1 + phi z.2.1.s ≤ 4 * l.length ∧ z.2.1.inv2 (l.map OX.l) z.1 z.2.2) zz) (fun z => 4 * l.length - z.1) ((0, x, bs)) (by (repeat' (first | exact envSub.nil | refine envSub.cons ?_ ?_)) <;> first | rfl | (refine congrArg some ?_; refine congrArg (Value.int _) ?_; first | omega | (dsimp only; omega)) | (simp; done) | (refine congrArg some ?_; dsimp only; congr 1; omega) | (simp; omega)) ⟨M, ⟨by have h1 := phi_le hI.inv.s; have h2 := hI.inv.s.len; rw [List.length_map] at h2; dsimp only [LnX.n] at h1 h2 ⊢; omega, hI.inv2 hi⟩⟩ ?_
      clear M; rintro (⟨k, ⟨g, gs, As, cs, ps, s, gr, gm, ms, r, At, ct, to, Ab, cb, back, Ao, co, out⟩, bs1⟩) w ⟨M, ⟨hph, ⟨⟨his, hms⟩, hinv, hnow, hto, hback, hsub⟩⟩⟩; dsimp only at M hph his hms hinv hnow hto hback hsub ⊢
      refine W.sub [(2, _), (9, _), (12, _)] (.cons rfl (.cons rfl (.cons rfl .nil))) ?_
      refine W.seq ?_
      refine W.seq ?_
      unfold LnX.L LnX.row at M
      simp only [List.cons_append, List.nil_append] at M
      have hinv0 := hinv
      obtain ⟨hS, hR, hack, hout, htoI, hbackI⟩ := hinv
      dsimp only [LnX.n] at hinv0 hph his hms hnow hto hback hsub hS hR hack hout htoI hbackI M ⊢
      have hP := SnX.is.len his
      have hSl := hS.len
      have hRg := hR.got
      have hml := hR.mlen
      rw [List.length_map] at hSl hRg hml
      dsimp only at hP
      have hol : out.length ≤ 60 := by have := congrArg List.length hout; simp at this; omega
      refine W.region ?_
      refine WL.move rfl rfl ?_
      refine WL.move rfl rfl ?_
      refine WL.len Try.underlying33 rfl rfl ?_
      refine WL.add rfl rfl (by first | exact wI64 (by omega) | rfl) rfl ?_
      refine WL.mul rfl rfl (by first | exact wI64 (by omega) | rfl) rfl ?_
      refine WL.lss rfl rfl rfl ?_
      refine WL.moveIf rfl rfl (fun c5 => ?_) (fun c5 => ?_)
      · refine WL.on rfl rfl ?_
        refine WL.move rfl rfl ?_
        refine WL.on rfl rfl ?_
        refine WL.nilCheck rfl rfl ?_
        refine WL.on rfl rfl ?_
        refine WL.fieldR (off := 0) Try.underlying62 rfl rfl Try.sizeOf24 rfl rfl rfl ?_
        refine WL.on rfl rfl ?_
        refine WL.loadR Try.isAgg24 rfl M (by first | ((repeat (first | with_reducible exact Has.here | with_reducible refine Has.there ?_)); done) | (repeat (first | exact Has.here | refine Has.there ?_))) rfl rfl ?_
        refine WL.on rfl rfl ?_
        refine WL.call Try.call24 rfl (Left_ok ⟨gs, As, cs, ps, s⟩ _ _ _ _ M (by first | ((repeat (first | with_reducible exact Del.here | with_reducible apply Del.there)); done) | (repeat (first | exact Del.here | apply Del.there)))) rfl ?_
        rintro _ _ ⟨rfl, rfl⟩
        refine WL.on rfl rfl ?_
        refine WL.gtr rfl rfl rfl ?_
        refine WL.pickT rfl rfl rfl ?_
        refine WL.nil ?_
        refine WX.next ?_
        refine W.sub [(2, _), (9, _), (12, _), (56, _)] (.cons rfl (.cons rfl (.cons rfl (.cons rfl .nil)))) ?_
        refine W.ite rfl (fun c6 => ?_) (fun c6 => ?_)
        · dsimp only at c6
          refine W.skip ?_
          refine WX.next ?_
          refine W.seq ?_
          refine W.block ?_
          refine W.seq ?_
          refine W.drawM ([Asr.row g 62 [.pointer (some ⟨gs, 0, none⟩), .pointer (some ⟨gr, 0, none⟩), .slice At to.length ct, .slice Ab back.length cb, .slice Ao out.length co]]) (by kernel_rfl) (fun j => [4, 8, 9].contains j) M (by first | ((repeat (first | with_reducible exact Sel.refl | with_reducible exact Sel.nil | with_reducible exact Del.here | with_reducible apply Del.there | with_reducible apply Sel.cons | with_reducible apply Sel.drop)); done) | (repeat (first | exact Sel.refl | exact Sel.nil | exact Del.here | apply Del.there | apply Sel.cons | apply Sel.drop))) ?_
          clear M; intro M
          apply DG.pure_ [0, 1, 2, 3, 5, 6, 7] 7 rfl (by kernel_rfl) (by kernel_rfl)
          · intro w
            refine WL.move rfl rfl ?_
            refine WL.move rfl rfl ?_
            refine WL.nilCheck rfl rfl ?_
            refine WL.fieldR (off := 2) Try.underlying62 rfl rfl Try.sizeOf45 rfl rfl rfl ?_
            refine WL.move rfl rfl ?_
            refine WL.nilCheck rfl rfl ?_
            refine WL.fieldR (off := 0) Try.underlying62 rfl rfl Try.sizeOf24 rfl rfl rfl ?_
            exact Chain.end_ rfl
          apply DG.take [4, 8] 5 rfl (by kernel_rfl) (by kernel_rfl) (M.sel (by first | ((repeat (first | with_reducible exact Sel.refl | with_reducible exact Sel.nil | with_reducible exact Del.here | with_reducible apply Del.there | with_reducible apply Sel.cons | with_reducible apply Sel.drop)); done) | (repeat (first | exact Sel.refl | exact Sel.nil | exact Del.here | apply Del.there | apply Sel.cons | apply Sel.drop))))
          · intro w M
            refine WL.loadR Try.isAgg45 rfl M (by first | ((repeat (first | with_reducible exact Has.here | with_reducible refine Has.there ?_)); done) | (repeat (first | exact Has.here | refine Has.there ?_))) rfl rfl ?_
            refine WL.loadR Try.isAgg24 rfl M (by first | ((repeat (first | with_reducible exact Has.here | with_reducible refine Has.there ?_)); done) | (repeat (first | exact Has.here | refine Has.there ?_))) rfl rfl ?_
            exact Chain.end_ rfl
          refine DG.step 9 4 rfl (by kernel_rfl) ?_
          refine WL.call Try.call19 rfl (Tick2 ⟨gs, As, cs, ps, s⟩ his (hS.ok hf (by omega)) _ _ _ _ M (by first | ((repeat (first | with_reducible exact Del.here | with_reducible apply Del.there)); done) | (repeat (first | exact Del.here | apply Del.there)))) rfl ?_
          rintro _ w ⟨B2, cB2, ps2, Ao2, co2, outs, rfl, his2, houts, M⟩
          dsimp only at his2 houts M
          have hol1 := congrArg List.length houts
          rw [List.length_map] at hol1
          have hol2 := tickO_len s
          have hw8 := hS.win
          refine DG.go (G := fun j => [4, 8, 9].contains j) (i := 9) (f' := 4) (done := [0, 1, 2, 3, 5, 6, 7, 4, 8]) (fun _ => M.sel (by first | ((repeat (first | with_reducible exact Sel.refl | with_reducible exact Sel.nil | with_reducible exact Del.here | with_reducible apply Del.there | with_reducible apply Sel.cons | with_reducible apply Sel.drop)); done) | (repeat (first | exact Sel.refl | exact Sel.nil | exact Del.here | apply Del.there | apply Sel.cons | apply Sel.drop)))) ?_
          refine DG.step 10 3 rfl (by kernel_rfl) ?_
          refine WL.appendL (E := segE) Try.elem36 rfl rfl M (by first | ((repeat (first | with_reducible exact Del.here | with_reducible apply Del.there)); done) | (repeat (first | exact Del.here | apply Del.there))) (by first | with_reducible assumption | with_reducible exact RdL.mem (by with_reducible assumption) M | exact M.rdL (by first | ((repeat (first | with_reducible exact Has.here | with_reducible refine Has.there ?_)); done) | (repeat (first | exact Has.here | refine Has.there ?_))) | exact RdLH.at (by assumption) (M.sel (by first | ((repeat (first | with_reducible exact Sel.refl | with_reducible exact Sel.nil | with_reducible exact Del.here | with_reducible apply Del.there | with_reducible apply Sel.cons | with_reducible apply Sel.drop)); done) | (repeat (first | exact Sel.refl | exact Sel.nil | exact Del.here | apply Del.there | apply Sel.cons | apply Sel.drop)))) | exact RdL.nil _ _ _) rfl rfl (by first | omega | (simp; done) | (simp; omega)) (by first | (simp only [maxLen]; omega) | (simp [maxLen]; done) | (simp [maxLen]; omega)) rfl ?_
          intro A15_10 cap15_10 w M
          refine DG.go (G := fun j => [4, 8, 9].contains j) (i := 10) (f' := 3) (done := [0, 1, 2, 3, 5, 6, 7, 4, 8, 9]) (fun h => by cases h) ?_
          apply DG.pure_ [11, 12] 1 rfl (by kernel_rfl) (by kernel_rfl)
          · intro w
            refine WL.nilCheck rfl rfl ?_
            refine WL.fieldR (off := 2) Try.underlying62 rfl rfl Try.sizeOf45 rfl rfl rfl ?_
            exact Chain.end_ rfl
          refine DG.step 13 0 rfl (by kernel_rfl) ?_
          refine WL.storeR Try.sizeOf45 rfl rfl rfl M (by first | ((repeat (first | with_reducible exact Has.here | with_reducible refine Has.there ?_)); done) | (repeat (first | exact Has.here | refine Has.there ?_))) (by repeat (first | exact SetAt.zero | apply SetAt.succ)) (by first | ((repeat (first | with_reducible exact Upd.here | with_reducible apply Upd.there)); done) | (repeat (first | exact Upd.here | apply Upd.there))) ?_
          intro w M
          refine DG.go (G := fun j => [4, 8, 9].contains j) (i := 13) (f' := 0) (done := [0, 1, 2, 3, 5, 6, 7, 4, 8, 9, 10, 11, 12]) (fun h => by cases h) ?_
          refine DG.end_ (by kernel_rfl) ?_
          refine WX.next ?_
          refine W.sub [(2, _), (9, _), (12, _)] (.cons rfl (.cons rfl (.cons rfl .nil))) ?_
          refine W.seq ?_
          refine W.seq ?_
          have M5 := Mem.starJoin (M.sel (K := Asr.star (bs1.map SX.O) :: Asr.star (outs.map SX.O) :: Asr.row g 62 _ :: SnX.O ⟨gs, B2, cB2, ps2, tickS s⟩ :: (RcX.of gr gm ms r).O :: Asr.lst segE A15_10 cap15_10 (to ++ outs) :: Asr.lst segE Ab cb back :: Asr.lst oxE Ao co out :: [Asr.star (out.map OX.O)]) (by first | ((repeat (first | with_reducible exact Sel.refl | with_reducible exact Sel.nil | with_reducible exact Del.here | with_reducible apply Del.there | with_reducible apply Sel.cons | with_reducible apply Sel.drop)); done) | (repeat (first | exact Sel.refl | exact Sel.nil | exact Del.here | apply Del.there | apply Sel.cons | apply Sel.drop))))
          rw [← List.map_append] at M5
          have hT := hinv0.tick
          unfold pickT at hT
          dsimp only at hT
          rw [← houts, ← List.map_append] at hT
          have hlen : (to ++ outs).length ≤ 808 := by rw [List.length_append]; unfold Sn.k at hol2; omega
          have hsub2 : ∀ q ∈ to ++ outs, q ∈ bs1 ++ outs := fun q h => List.mem_append.2 ((List.mem_append.1 h).imp (hsub q) id)
          have hfst : due s.span (s.now + 1) (el s.l 0) = true → ∃ j, j < (to ++ outs).length ∧ (el (to ++ outs) j).seq = s.acked + 1 := by
            intro hd
            have h1 := tick_first hS (by omega) hd
            rw [← houts] at h1
            obtain ⟨t, ht, et⟩ := List.mem_map.1 h1
            obtain ⟨j, hj, e⟩ := mem_el (List.mem_append.2 (.inr ht) : t ∈ to ++ outs)
            exact ⟨j, hj, by rw [e]; exact congrArg (fun z : Key => z.2.1) et⟩
          replace M := M5
          generalize to ++ outs = T at hT hlen hsub2 hfst M ⊢
          generalize bs1 ++ outs = bs2 at hsub2 M ⊢
          have hsok := hT.s.ok hf (show s.now + 1 < 1000000000 by omega)
          refine W.region ?_
          refine WL.assign rfl rfl ?_
          refine WL.nil ?_
          refine WX.next ?_
          refine W.sub [(2, _), (9, _), (12, _), (13, _)] (.cons rfl (.cons rfl (.cons rfl (.cons rfl .nil)))) ?_
          refine W.block ?_
          refine W.loop (ι := Nat × (Option Addr × Nat × List PX) × (Nat × List (Nat × OX) × Rc) × (Option Addr × Nat × List SX) × (Option Addr × Nat × List OX)) (fun z => [(2, .slice A0 l.length k0), (9, .pointer (some ⟨g, 0, none⟩)), (12, .int .i64 (k : Int)), (13, .int .i64 (z.1 : Int))]) (fun zz w => Mem w0 w ((fun z => [Asr.row g 62 [.pointer (some ⟨gs, 0, none⟩), .pointer (some ⟨gr, 0, none⟩), .slice A15_10 T.length cap15_10, .slice z.2.2.2.1.1 z.2.2.2.1.2.2.length z.2.2.2.1.2.1, .slice z.2.2.2.2.1 z.2.2.2.2.2.2.length z.2.2.2.2.2.1], SnX.O ⟨gs, z.2.1.1, z.2.1.2.1, z.2.1.2.2, tickS s⟩, (RcX.of gr z.2.2.1.1 z.2.2.1.2.1 z.2.2.1.2.2).O, Asr.lst segE A15_10 cap15_10 T, Asr.lst segE z.2.2.2.1.1 z.2.2.2.1.2.1 z.2.2.2.1.2.2, Asr.lst oxE z.2.2.2.2.1 z.2.2.2.2.2.1 z.2.2.2.2.2.2, Asr.star (z.2.2.2.2.2.2.map OX.O), Asr.star (bs2.map SX.O)]) zz) ∧ (fun z => z.1 ≤ T.length ∧ SnX.is ⟨gs, z.2.1.1, z.2.1.2.1, z.2.1.2.2, tickS s⟩ ∧ mmap OX.l z.2.2.1.2.1 = z.2.2.1.2.2.m ∧ Inv (l.map OX.l) ⟨tickS s, z.2.2.1.2.2, T.map SX.key, z.2.2.2.1.2.2.map SX.key, z.2.2.2.2.2.2.map OX.l⟩ ∧ z.2.2.2.1.2.2.length ≤ 100 + z.1 ∧ (∀ i, i < z.1 → (el T i).seq ≤ s.acked + 1 → ∃ q ∈ z.2.2.2.1.2.2.map SX.key, (el T i).seq ≤ q.2.1)) zz) (fun z => T.length - z.1) ((0, (B2, cB2, ps2), (gm, ms, r), (Ab, cb, back), (Ao, co, out))) (by (repeat' (first | exact envSub.nil | refine envSub.cons ?_ ?_)) <;> first | rfl | (refine congrArg some ?_; refine congrArg (Value.int _) ?_; first | omega | (dsimp only; omega)) | (simp; done) | (refine congrArg some ?_; dsimp only; congr 1; omega) | (simp; omega)) ⟨M.sel (by first | ((repeat (first | with_reducible exact Sel.refl | with_reducible exact Sel.nil | with_reducible exact Del.here | with_reducible apply Del.there | with_reducible apply Sel.cons | with_reducible apply Sel.drop)); done) | (repeat (first | exact Sel.refl | exact Sel.nil | exact Del.here | apply Del.there | apply Sel.cons | apply Sel.drop))), ⟨by simp, his2, hms, hT, by dsimp only; omega, fun i hi => absurd hi (Nat.not_lt_zero _)⟩⟩ ?_
          clear M; rintro (⟨j, ⟨B3, cB3, ps3⟩, ⟨gm3, ms3, r3⟩, ⟨Ab3, cb3, back3⟩, Ao3, co3, out3⟩) w ⟨M, ⟨hj, his3, hms3, hI3, hb3, hrc3⟩⟩; dsimp only at M hj his3 hms3 hI3 hb3 hrc3 ⊢
          refine W.sub [(2, _), (9, _), (12, _), (13, _)] (.cons rfl (.cons rfl (.cons rfl (.cons rfl .nil)))) ?_
          refine W.seq ?_
          refine W.seq ?_
          refine W.region ?_
          refine WL.move rfl rfl ?_
          refine WL.move rfl rfl ?_
          refine WL.nilCheck rfl rfl ?_
          refine WL.fieldR (off := 2) Try.underlying62 rfl rfl Try.sizeOf45 rfl rfl rfl ?_
          refine WL.loadR Try.isAgg45 rfl M (by first | ((repeat (first | with_reducible exact Has.here | with_reducible refine Has.there ?_)); done) | (repeat (first | exact Has.here | refine Has.there ?_))) rfl rfl ?_
          refine WL.len Try.underlying45 rfl rfl ?_
          refine WL.lss rfl rfl rfl ?_
          refine WL.nil ?_
          refine WX.next ?_
          refine W.sub [(2, _), (9, _), (12, _), (13, _), (78, _)] (.cons rfl (.cons rfl (.cons rfl (.cons rfl (.cons rfl .nil))))) ?_
          refine W.ite rfl (fun c7 => ?_) (fun c7 => ?_)
          · have hq3 := hI3.to (el T j).key (List.mem_map.2 ⟨_, el_mem (by omega), rfl⟩)
            have hml3 := hI3.r.mlen
            have hol3 : out3.length ≤ 60 := by have h1 := congrArg List.length hI3.out; have h2 := hf.1; simp at h1 h2; omega
            have hf60 := hf.1
            have hb5 : (el T j).life < 18446744073709551616 ∧ (el T j).seq < 18446744073709551616 := by
              obtain ⟨a1, _, k, a2, a3, _⟩ := hq3
              dsimp only [SX.key] at a1 a3
              exact ⟨by omega, by omega⟩
            have hcm := hI3.come hf hq3
            have hrch := (hI3.r.come hf hq3).reach
            refine W.skip ?_
            refine WX.next ?_
            refine W.seq ?_
            refine W.block ?_
            refine W.region ?_
            refine WL.move rfl rfl ?_
            refine WL.move rfl rfl ?_
            refine WL.nilCheck rfl rfl ?_
            refine WL.fieldR (off := 2) Try.underlying62 rfl rfl Try.sizeOf45 rfl rfl rfl ?_
            refine WL.loadR Try.isAgg45 rfl M (by first | ((repeat (first | with_reducible exact Has.here | with_reducible refine Has.there ?_)); done) | (repeat (first | exact Has.here | refine Has.there ?_))) rfl rfl ?_
            refine WL.move rfl rfl ?_
            refine WL.idxA Try.underlying45 Try.sizeOf36 rfl rfl (RdL.isSome (E := segE) (by first | with_reducible assumption | with_reducible exact RdL.mem (by with_reducible assumption) M | exact M.rdL (by first | ((repeat (first | with_reducible exact Has.here | with_reducible refine Has.there ?_)); done) | (repeat (first | exact Has.here | refine Has.there ?_))) | exact RdLH.at (by assumption) (M.sel (by first | ((repeat (first | with_reducible exact Sel.refl | with_reducible exact Sel.nil | with_reducible exact Del.here | with_reducible apply Del.there | with_reducible apply Sel.cons | with_reducible apply Sel.drop)); done) | (repeat (first | exact Sel.refl | exact Sel.nil | exact Del.here | apply Del.there | apply Sel.cons | apply Sel.drop)))) | exact RdL.nil _ _ _) (by omega)) (by omega) (by omega) (by first | exact rfl | exact (Int.toNat_of_nonneg (by omega)).symm) rfl ?_
            refine WL.loadL (E := segE) (cs := [_, _, _, _]) Try.isAgg36 Try.sizeOf36 rfl (by first | with_reducible assumption | with_reducible exact RdL.mem (by with_reducible assumption) M | exact M.rdL (by first | ((repeat (first | with_reducible exact Has.here | with_reducible refine Has.there ?_)); done) | (repeat (first | exact Has.here | refine Has.there ?_))) | exact RdLH.at (by assumption) (M.sel (by first | ((repeat (first | with_reducible exact Sel.refl | with_reducible exact Sel.nil | with_reducible exact Del.here | with_reducible apply Del.there | with_reducible apply Sel.cons | with_reducible apply Sel.drop)); done) | (repeat (first | exact Sel.refl | exact Sel.nil | exact Del.here | apply Del.there | apply Sel.cons | apply Sel.drop)))) | exact RdL.nil _ _ _) rfl (by omega) rfl rfl ?_
            refine WL.call Try.call30 rfl (comesT_ok ⟨g, gs, B3, cB3, ps3, tickS s, gr, gm3, ms3, r3, A15_10, cap15_10, T, Ab3, cb3, back3, Ao3, co3, out3⟩ ⟨his3, hms3⟩ hsok (hI3.r.ok hf) (el T j) hb5.1 hb5.2 (by dsimp only; omega) (by dsimp only; omega) (by dsimp only at hml3 ⊢; omega) w0 w [Asr.star (bs2.map SX.O)] (M.sel (by first | ((repeat (first | with_reducible exact Sel.refl | with_reducible exact Sel.nil | with_reducible exact Del.here | with_reducible apply Del.there | with_reducible apply Sel.cons | with_reducible apply Sel.drop)); done) | (repeat (first | exact Sel.refl | exact Sel.nil | exact Del.here | apply Del.there | apply Sel.cons | apply Sel.drop)))) (fun w M => ownRd (M.starHas (f := SX.O) (by first | ((repeat (first | with_reducible exact Has.here | with_reducible refine Has.there ?_)); done) | (repeat (first | exact Has.here | refine Has.there ?_))) (hsub2 _ (el_mem (by omega)))))) rfl ?_
            rintro _ w ⟨B4, cB4, ps4, gm4, ms4, Ab4, cb4, back4, Ao4, co4, out4, rfl, ⟨his4, hms4⟩, hbk4, hot4, M⟩
            obtain ⟨_, hI4⟩ := hcm
            unfold comeT at hI4
            dsimp only at hI4 hrch his4 hms4 hbk4 hot4
            rw [← hbk4, ← hot4] at hI4
            have hb4 : back4.length ≤ 100 + (j + 1) := by have := congrArg List.length hbk4; simp at this; omega
            have hrc4 : ∀ i, i < j + 1 → (el T i).seq ≤ s.acked + 1 → ∃ q ∈ back4.map SX.key, (el T i).seq ≤ q.2.1 := by
              intro i hi he
              rw [hbk4]
              rcases Nat.lt_or_ge i j with h | h
              · obtain ⟨q, hq, e⟩ := hrc3 i h he
                exact ⟨q, List.mem_append.2 (.inl hq), e⟩
              · obtain rfl : i = j := by omega
                refine ⟨_, List.mem_append.2 (.inr (List.mem_singleton.2 rfl)), hrch ?_⟩
                have h1 := hI3.ack
                dsimp only at h1
                exact Nat.le_trans he (Nat.succ_le_succ h1)
            refine WL.nil ?_
            refine WX.blockNormal ?_
            refine WX.next ?_
            refine W.sub [(2, _), (9, _), (12, _), (13, _)] (.cons rfl (.cons rfl (.cons rfl (.cons rfl .nil)))) ?_
            refine W.region ?_
            refine WL.move rfl rfl ?_
            refine WL.add rfl rfl (by first | exact wI64 (by omega) | rfl) rfl ?_
            refine WL.assign rfl rfl ?_
            refine WL.nil ?_
            refine WX.round ((j + 1, (B4, cB4, ps4), (gm4, ms4, rhS r3 (el T j).key), (Ab4, cb4, back4), (Ao4, co4, out4))) (by (repeat' (first | exact envSub.nil | refine envSub.cons ?_ ?_)) <;> first | rfl | (refine congrArg some ?_; refine congrArg (Value.int _) ?_; first | omega | (dsimp only; omega)) | (simp; done) | (refine congrArg some ?_; dsimp only; congr 1; omega) | (simp; omega)) ⟨M.sel (by first | ((repeat (first | with_reducible exact Sel.refl | with_reducible exact Sel.nil | with_reducible exact Del.here | with_reducible apply Del.there | with_reducible apply Sel.cons | with_reducible apply Sel.drop)); done) | (repeat (first | exact Sel.refl | exact Sel.nil | exact Del.here | apply Del.there | apply Sel.cons | apply Sel.drop))), ⟨by dsimp only; omega, his4, hms4, hI4, hb4, hrc4⟩⟩ (by first | omega | (dsimp only; omega))
          · obtain rfl : j = T.length := by omega
            refine W.exit ?_
            refine WX.thenExit ?_
            refine WX.thenExit ?_
            refine WX.blockHere ?_
            refine WX.next ?_
            refine W.seq ?_
            refine W.region ?_
            refine WL.move rfl rfl ?_
            refine WL.nilCheck rfl rfl ?_
            refine WL.fieldR (off := 2) Try.underlying62 rfl rfl Try.sizeOf45 rfl rfl rfl ?_
            refine WL.storeR Try.sizeOf45 rfl rfl rfl M (by first | ((repeat (first | with_reducible exact Has.here | with_reducible refine Has.there ?_)); done) | (repeat (first | exact Has.here | refine Has.there ?_))) (by repeat (first | exact SetAt.zero | apply SetAt.succ)) (by first | ((repeat (first | with_reducible exact Upd.here | with_reducible apply Upd.there)); done) | (repeat (first | exact Upd.here | apply Upd.there))) ?_
            intro w M
            refine WL.nil ?_
            refine WX.next ?_
            refine W.sub [(2, _), (9, _), (12, _)] (.cons rfl (.cons rfl (.cons rfl .nil))) ?_
            refine W.seq ?_
            refine W.seq ?_
            have M6 := (Mem.nilOwn M 36 4)
            have hI6 : Inv (l.map OX.l) ⟨tickS s, r3, [], back3.map SX.key, out3.map OX.l⟩ := ⟨hI3.s, hI3.r, hI3.ack, hI3.out, (fun q h => by cases h), hI3.back⟩
            obtain ⟨K, hK⟩ : ∃ K, back3.map SX.key = K := ⟨_, rfl⟩
            rw [hK] at hI6 hrc3
            have hml3 := hI3.r.mlen
            have hol3 : out3.length ≤ 60 := by have h1 := congrArg List.length hI3.out; have h2 := hf.1; simp at h1 h2; omega
            have hKl : K.length ≤ 1000 := by rw [← hK, List.length_map]; omega
            refine W.region ?_
            refine WL.assign rfl rfl ?_
            refine WL.nil ?_
            refine WX.next ?_
            refine W.sub [(2, _), (9, _), (12, _), (14, _)] (.cons rfl (.cons rfl (.cons rfl (.cons rfl .nil)))) ?_
            refine W.block ?_
            refine W.loop (ι := Nat × (Option Addr × Nat × List PX × Sn) × (Nat × List (Nat × OX)) × (Option Addr × Nat × List SX) × (Option Addr × Nat × List OX)) (fun z => [(2, .slice A0 l.length k0), (9, .pointer (some ⟨g, 0, none⟩)), (12, .int .i64 (k : Int)), (14, .int .i64 (z.1 : Int))]) (fun zz w => Mem w0 w ((fun z => [Asr.row g 62 [.pointer (some ⟨gs, 0, none⟩), .pointer (some ⟨gr, 0, none⟩), .slice none 0 0, .slice z.2.2.2.1.1 z.2.2.2.1.2.2.length z.2.2.2.1.2.1, .slice z.2.2.2.2.1 z.2.2.2.2.2.2.length z.2.2.2.2.2.1], SnX.O ⟨gs, z.2.1.1, z.2.1.2.1, z.2.1.2.2.1, z.2.1.2.2.2⟩, (RcX.of gr z.2.2.1.1 z.2.2.1.2 r3).O, Asr.lst segE none 0 [], Asr.lst segE z.2.2.2.1.1 z.2.2.2.1.2.1 z.2.2.2.1.2.2, Asr.lst oxE z.2.2.2.2.1 z.2.2.2.2.2.1 z.2.2.2.2.2.2, Asr.star (z.2.2.2.2.2.2.map OX.O), Asr.star (bs2.map SX.O)]) zz) ∧ (fun z => z.1 ≤ K.length ∧ SnX.is ⟨gs, z.2.1.1, z.2.1.2.1, z.2.1.2.2.1, z.2.1.2.2.2⟩ ∧ mmap OX.l z.2.2.1.2 = r3.m ∧ Inv (l.map OX.l) ⟨z.2.1.2.2.2, r3, [], K, z.2.2.2.2.2.2.map OX.l⟩ ∧ z.2.2.2.1.2.2.map SX.key = K ∧ (z.2.1.2.2.2 = tickS s ∨ s.acked < z.2.1.2.2.2.acked) ∧ z.2.1.2.2.2.now = s.now + 1 ∧ (∀ i, i < z.1 → (el K i).2.1 ≤ z.2.1.2.2.2.acked)) zz) (fun z => K.length - z.1) ((0, (B3, cB3, ps3, tickS s), (gm3, ms3), (Ab3, cb3, back3), (Ao3, co3, out3))) (by (repeat' (first | exact envSub.nil | refine envSub.cons ?_ ?_)) <;> first | rfl | (refine congrArg some ?_; refine congrArg (Value.int _) ?_; first | omega | (dsimp only; omega)) | (simp; done) | (refine congrArg some ?_; dsimp only; congr 1; omega) | (simp; omega)) ⟨M6.sel (by first | ((repeat (first | with_reducible exact Sel.refl | with_reducible exact Sel.nil | with_reducible exact Del.here | with_reducible apply Del.there | with_reducible apply Sel.cons | with_reducible apply Sel.drop)); done) | (repeat (first | exact Sel.refl | exact Sel.nil | exact Del.here | apply Del.there | apply Sel.cons | apply Sel.drop))), ⟨by simp, his3, hms3, hI6, hK, .inl rfl, rfl, fun i hi => absurd hi (Nat.not_lt_zero _)⟩⟩ ?_
            clear M; rintro (⟨j, ⟨B5, cB5, ps5, s5⟩, ⟨gm5, ms5⟩, ⟨Ab5, cb5, back5⟩, Ao5, co5, out5⟩) w ⟨M, ⟨hj, his5, hms5, hI5, hK5, hd5, hn5, hrc5⟩⟩; dsimp only at M hj his5 hms5 hI5 hK5 hd5 hn5 hrc5 ⊢
            refine W.sub [(2, _), (9, _), (12, _), (14, _)] (.cons rfl (.cons rfl (.cons rfl (.cons rfl .nil)))) ?_
            refine W.seq ?_
            refine W.seq ?_
            have hKb : back5.length = K.length := by rw [← hK5, List.length_map]
            refine W.region ?_
            refine WL.move rfl rfl ?_
            refine WL.move rfl rfl ?_
            refine WL.nilCheck rfl rfl ?_
            refine WL.fieldR (off := 3) Try.underlying62 rfl rfl Try.sizeOf45 rfl rfl rfl ?_
            refine WL.loadR Try.isAgg45 rfl M (by first | ((repeat (first | with_reducible exact Has.here | with_reducible refine Has.there ?_)); done) | (repeat (first | exact Has.here | refine Has.there ?_))) rfl rfl ?_
            refine WL.len Try.underlying45 rfl rfl ?_
            refine WL.lss rfl rfl rfl ?_
            refine WL.nil ?_
            refine WX.next ?_
            refine W.sub [(2, _), (9, _), (12, _), (14, _), (99, _)] (.cons rfl (.cons rfl (.cons rfl (.cons rfl (.cons rfl .nil))))) ?_
            refine W.ite rfl (fun c8 => ?_) (fun c8 => ?_)
            · have hkey : el K j = (el back5 j).key := by rw [← hK5, el_map SX.key (by omega)]
              have hq5 := hI5.back (el K j) (el_mem (l := K) (by omega))
              have hol5 : out5.length ≤ 60 := by have h1 := congrArg List.length hI5.out; have h2 := hf.1; simp at h1 h2; omega
              have hf60 := hf.1
              have hb5 : (el back5 j).life < 18446744073709551616 ∧ (el back5 j).seq < 18446744073709551616 := by
                rw [hkey] at hq5
                obtain ⟨a1, _, _, a3⟩ := hq5
                dsimp only [SX.key] at a1 a3
                have := hI5.r.got
                dsimp only at this
                exact ⟨by omega, by omega⟩
              obtain ⟨_, hI7⟩ := hI5.hear hq5
              obtain ⟨_, _, _, hge, hmo, hnw⟩ := hI5.s.hear hI5.r.got hI5.ack hq5
              unfold comeB at hI7
              dsimp only at hI7 hge hmo hnw
              refine W.skip ?_
              refine WX.next ?_
              refine W.seq ?_
              refine W.block ?_
              refine W.region ?_
              refine WL.move rfl rfl ?_
              refine WL.move rfl rfl ?_
              refine WL.nilCheck rfl rfl ?_
              refine WL.fieldR (off := 3) Try.underlying62 rfl rfl Try.sizeOf45 rfl rfl rfl ?_
              refine WL.loadR Try.isAgg45 rfl M (by first | ((repeat (first | with_reducible exact Has.here | with_reducible refine Has.there ?_)); done) | (repeat (first | exact Has.here | refine Has.there ?_))) rfl rfl ?_
              refine WL.move rfl rfl ?_
              refine WL.idxA Try.underlying45 Try.sizeOf36 rfl rfl (RdL.isSome (E := segE) (by first | with_reducible assumption | with_reducible exact RdL.mem (by with_reducible assumption) M | exact M.rdL (by first | ((repeat (first | with_reducible exact Has.here | with_reducible refine Has.there ?_)); done) | (repeat (first | exact Has.here | refine Has.there ?_))) | exact RdLH.at (by assumption) (M.sel (by first | ((repeat (first | with_reducible exact Sel.refl | with_reducible exact Sel.nil | with_reducible exact Del.here | with_reducible apply Del.there | with_reducible apply Sel.cons | with_reducible apply Sel.drop)); done) | (repeat (first | exact Sel.refl | exact Sel.nil | exact Del.here | apply Del.there | apply Sel.cons | apply Sel.drop)))) | exact RdL.nil _ _ _) (by omega)) (by omega) (by omega) (by first | exact rfl | exact (Int.toNat_of_nonneg (by omega)).symm) rfl ?_
              refine WL.loadL (E := segE) (cs := [_, _, _, _]) Try.isAgg36 Try.sizeOf36 rfl (by first | with_reducible assumption | with_reducible exact RdL.mem (by with_reducible assumption) M | exact M.rdL (by first | ((repeat (first | with_reducible exact Has.here | with_reducible refine Has.there ?_)); done) | (repeat (first | exact Has.here | refine Has.there ?_))) | exact RdLH.at (by assumption) (M.sel (by first | ((repeat (first | with_reducible exact Sel.refl | with_reducible exact Sel.nil | with_reducible exact Del.here | with_reducible apply Del.there | with_reducible apply Sel.cons | with_reducible apply Sel.drop)); done) | (repeat (first | exact Sel.refl | exact Sel.nil | exact Del.here | apply Del.there | apply Sel.cons | apply Sel.drop)))) | exact RdL.nil _ _ _) rfl (by omega) rfl rfl ?_
              refine WL.call Try.call30 rfl (comesB_ok ⟨g, gs, B5, cB5, ps5, s5, gr, gm5, ms5, r3, none, 0, [], Ab5, cb5, back5, Ao5, co5, out5⟩ ⟨his5, hms5⟩ (hI5.s.ok hf (by dsimp only; omega)) (hI5.r.ok hf) (el back5 j) hb5.1 hb5.2 (by dsimp only; omega) (by dsimp only; omega) (by dsimp only at hml3 ⊢; omega) w0 w [Asr.star (bs2.map SX.O)] (M.sel (by first | ((repeat (first | with_reducible exact Sel.refl | with_reducible exact Sel.nil | with_reducible exact Del.here | with_reducible apply Del.there | with_reducible apply Sel.cons | with_reducible apply Sel.drop)); done) | (repeat (first | exact Sel.refl | exact Sel.nil | exact Del.here | apply Del.there | apply Sel.cons | apply Sel.drop))))) rfl ?_
              rintro _ w ⟨B6, cB6, ps6, gm6, ms6, Ab6, cb6, back6, Ao6, co6, out6, rfl, ⟨his6, hms6⟩, hbk6, hot6, M⟩
              dsimp only at his6 hms6 hbk6 hot6
              rw [List.append_nil] at hbk6 hot6
              rw [← hkey] at his6 M
              rw [← hot6] at hI7
              have hd7 : hearS s5 (el K j) = tickS s ∨ s.acked < (hearS s5 (el K j)).acked := by
                rcases hd5 with h | h
                · by_cases hlt : s.acked < (hearS s5 (el K j)).acked
                  · exact .inr hlt
                  · left
                    rw [h]
                    unfold hearS
                    rw [if_neg]
                    rintro ⟨_, h8⟩
                    have h9 : (tickS s).acked = s.acked := rfl
                    rw [h] at hge hlt
                    omega
                · exact .inr (by omega)
              have hrc7 : ∀ i, i < j + 1 → (el K i).2.1 ≤ (hearS s5 (el K j)).acked := by
                intro i hi
                rcases Nat.lt_or_ge i j with h | h
                · exact Nat.le_trans (hrc5 i h) hmo
                · obtain rfl : i = j := by omega
                  exact hge
              refine WL.nil ?_
              refine WX.blockNormal ?_
              refine WX.next ?_
              refine W.sub [(2, _), (9, _), (12, _), (14, _)] (.cons rfl (.cons rfl (.cons rfl (.cons rfl .nil)))) ?_
              refine W.region ?_
              refine WL.move rfl rfl ?_
              refine WL.add rfl rfl (by first | exact wI64 (by omega) | rfl) rfl ?_
              refine WL.assign rfl rfl ?_
              refine WL.nil ?_
              refine WX.round ((j + 1, (B6, cB6, ps6, hearS s5 (el K j)), (gm6, ms6), (Ab6, cb6, back6), (Ao6, co6, out6))) (by (repeat' (first | exact envSub.nil | refine envSub.cons ?_ ?_)) <;> first | rfl | (refine congrArg some ?_; refine congrArg (Value.int _) ?_; first | omega | (dsimp only; omega)) | (simp; done) | (refine congrArg some ?_; dsimp only; congr 1; omega) | (simp; omega)) ⟨M.sel (by first | ((repeat (first | with_reducible exact Sel.refl | with_reducible exact Sel.nil | with_reducible exact Del.here | with_reducible apply Del.there | with_reducible apply Sel.cons | with_reducible apply Sel.drop)); done) | (repeat (first | exact Sel.refl | exact Sel.nil | exact Del.here | apply Del.there | apply Sel.cons | apply Sel.drop))), ⟨by dsimp only; omega, his6, hms6, hI7, hbk6.trans hK5, hd7, hnw.trans hn5, hrc7⟩⟩ (by first | omega | (dsimp only; omega))
            · obtain rfl : j = K.length := by omega
              refine W.exit ?_
              refine WX.thenExit ?_
              refine WX.thenExit ?_
              refine WX.blockHere ?_
              refine WX.next ?_
              refine W.region ?_
              refine WL.move rfl rfl ?_
              refine WL.nilCheck rfl rfl ?_
              refine WL.fieldR (off := 3) Try.underlying62 rfl rfl Try.sizeOf45 rfl rfl rfl ?_
              refine WL.storeR Try.sizeOf45 rfl rfl rfl M (by first | ((repeat (first | with_reducible exact Has.here | with_reducible refine Has.there ?_)); done) | (repeat (first | exact Has.here | refine Has.there ?_))) (by repeat (first | exact SetAt.zero | apply SetAt.succ)) (by first | ((repeat (first | with_reducible exact Upd.here | with_reducible apply Upd.there)); done) | (repeat (first | exact Upd.here | apply Upd.there))) ?_
              intro w M
              refine WL.nil ?_
              refine WX.blockNormal ?_
              refine WX.next ?_
              refine W.sub [(2, _), (9, _), (12, _)] (.cons rfl (.cons rfl (.cons rfl .nil))) ?_
              refine W.region ?_
              refine WL.move rfl rfl ?_
              refine WL.add rfl rfl (by first | exact wI64 (by omega) | rfl) rfl ?_
              refine WL.assign rfl rfl ?_
              refine WL.nil ?_
              skip
              have M8 := (Mem.nilOwn M 36 4)
              have hless : phi s5 < phi s := phi_less hS (by omega) hI5.s hd5 (by
                intro hd
                obtain ⟨j, hj, e⟩ := hfst hd
                obtain ⟨q, hq, e2⟩ := hrc3 j hj (by omega)
                obtain ⟨i, hi, e3⟩ := mem_el hq
                have h9 := hrc5 i hi
                rw [e3] at h9
                omega)
              have hI9 : Inv (l.map OX.l) ⟨s5, r3, [], [], out5.map OX.l⟩ := ⟨hI5.s, hI5.r, hI5.ack, hI5.out, (fun q h => by cases h), fun q h => by cases h⟩
              have hn9 : s5.now ≤ 100 + (k + 1) := by omega
              refine WX.round ((k + 1, ⟨g, gs, B5, cB5, ps5, s5, gr, gm5, ms5, r3, none, 0, [], none, 0, [], Ao5, co5, out5⟩, bs2)) (by (repeat' (first | exact envSub.nil | refine envSub.cons ?_ ?_)) <;> first | rfl | (refine congrArg some ?_; refine congrArg (Value.int _) ?_; first | omega | (dsimp only; omega)) | (simp; done) | (refine congrArg some ?_; dsimp only; congr 1; omega) | (simp; omega)) ⟨M8.sel (by first | ((repeat (first | with_reducible exact Sel.refl | with_reducible exact Sel.nil | with_reducible exact Del.here | with_reducible apply Del.there | with_reducible apply Sel.cons | with_reducible apply Sel.drop)); done) | (repeat (first | exact Sel.refl | exact Sel.nil | exact Del.here | apply Del.there | apply Sel.cons | apply Sel.drop))), ⟨by dsimp only; omega, ⟨⟨his5, hms5⟩, hI9, hn9, (by dsimp only; simp), (by dsimp only; simp), fun q h => by cases h⟩⟩⟩ (by first | omega | (dsimp only; omega))
        · dsimp only at c6
          refine W.exit ?_
          refine WX.thenExit ?_
          refine WX.thenExit ?_
          refine WX.blockHere ?_
          refine WX.next ?_
          refine W.seq ?_
          have hpl : ps.length = 0 := by omega
          have hgl : out.map OX.l = l.map OX.l := by rw [hout, List.take_of_length_le (by rw [List.length_map]; omega)]
          refine W.region ?_
          refine WL.move rfl rfl ?_
          refine WL.nilCheck rfl rfl ?_
          refine WL.fieldR (off := 0) Try.underlying62 rfl rfl Try.sizeOf24 rfl rfl rfl ?_
          refine WL.loadR Try.isAgg24 rfl M (by first | ((repeat (first | with_reducible exact Has.here | with_reducible refine Has.there ?_)); done) | (repeat (first | exact Has.here | refine Has.there ?_))) rfl rfl ?_
          refine WL.call Try.call24 rfl (Left_ok ⟨gs, As, cs, ps, s⟩ _ _ _ _ M (by first | ((repeat (first | with_reducible exact Del.here | with_reducible apply Del.there)); done) | (repeat (first | exact Del.here | apply Del.there)))) rfl ?_
          rintro _ _ ⟨rfl, rfl⟩
          refine WL.eqI rfl rfl rfl ?_
          refine WL.moveIf rfl rfl (fun c9 => ?_) (fun c9 => ?_)
          · refine WL.on rfl rfl ?_
            refine WL.move rfl rfl ?_
            refine WL.on rfl rfl ?_
            refine WL.nilCheck rfl rfl ?_
            refine WL.on rfl rfl ?_
            refine WL.fieldR (off := 4) Try.underlying62 rfl rfl Try.sizeOf33 rfl rfl rfl ?_
            refine WL.on rfl rfl ?_
            refine WL.loadR Try.isAgg33 rfl M (by first | ((repeat (first | with_reducible exact Has.here | with_reducible refine Has.there ?_)); done) | (repeat (first | exact Has.here | refine Has.there ?_))) rfl rfl ?_
            refine WL.on rfl rfl ?_
            refine WL.move rfl rfl ?_
            refine WL.on rfl rfl ?_
            refine WL.call Try.call31 rfl (SameLists_ok (by first | with_reducible assumption | with_reducible exact RdL.mem (by with_reducible assumption) M | exact M.rdL (by first | ((repeat (first | with_reducible exact Has.here | with_reducible refine Has.there ?_)); done) | (repeat (first | exact Has.here | refine Has.there ?_))) | exact RdLH.at (by assumption) (M.sel (by first | ((repeat (first | with_reducible exact Sel.refl | with_reducible exact Sel.nil | with_reducible exact Del.here | with_reducible apply Del.there | with_reducible apply Sel.cons | with_reducible apply Sel.drop)); done) | (repeat (first | exact Sel.refl | exact Sel.nil | exact Del.here | apply Del.there | apply Sel.cons | apply Sel.drop)))) | exact RdL.nil _ _ _) (h0.mem M) (fun o h => ownRd (M.starHas (f := OX.O) (by first | ((repeat (first | with_reducible exact Has.here | with_reducible refine Has.there ?_)); done) | (repeat (first | exact Has.here | refine Has.there ?_))) h)) (fun o h => (hb0 o h).mem M) (by omega)) rfl ?_
            rintro _ w ⟨rfl, m⟩
            replace M := M.call0 m; clear m
            rw [decide_eq_true hgl]
            refine WL.pickT rfl rfl rfl ?_
            refine WL.moveIfB rfl rfl (fun c10 => ?_) (fun c10 => ?_)
            · refine WL.on rfl rfl ?_
              refine WL.call Try.call12 rfl (known7_ok _) rfl ?_
              rintro _ w ⟨rfl, m⟩
              replace M := M.call0 m; clear m
              refine WL.pickT rfl rfl rfl ?_
              refine WL.assign rfl rfl ?_
              refine WL.nil ?_
              refine WX.next ?_
              refine W.sub [(8, _)] (.cons rfl .nil) ?_
              refine W.ret ?_
              refine WX.ret1 rfl rfl ?_
              exact ⟨rfl, M.sel (by first | ((repeat (first | with_reducible exact Sel.refl | with_reducible exact Sel.nil | with_reducible exact Del.here | with_reducible apply Del.there | with_reducible apply Sel.cons | with_reducible apply Sel.drop)); done) | (repeat (first | exact Sel.refl | exact Sel.nil | exact Del.here | apply Del.there | apply Sel.cons | apply Sel.drop)))⟩
            · exact absurd c10 (by decide)
          · exact absurd (by dsimp only; omega) c9
      · exact absurd (by omega) c5
end Go.Proofs.Ytgaegaaaoopolaa
