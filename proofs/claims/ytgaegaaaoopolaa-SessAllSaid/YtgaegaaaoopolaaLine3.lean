/-
  Walks: a line with losses (seawalllaw07): pick, start.
-/
import Derived.Test.YtgaegaaaoopolaaLine2
namespace Go.Proofs.Ytgaegaaaoopolaa
open Go Go.RowKit

/-- What is known of a line behind i acts; bs: pieces whose bytes are there. -/
structure LnX.inv (l : List (List UInt8)) (i : Nat) (x : LnX) (bs : List SX) : Prop where
  is : x.is
  inv : Inv l x.n
  now : x.s.now ≤ i
  to : x.to.length ≤ 8 * i
  back : x.back.length ≤ i
  sub : ∀ q ∈ x.to, q ∈ bs
def pickV (how at_ : Int) (ack : Bool) : Value := .agg #[.int .i64 how, .int .i64 at_, .bool ack]
theorem inv_comes {l : List (List UInt8)} {n : Ln} (hI : Inv l n) (hf : fewL l) {ack : Bool} {q : Key} (hq : if ack then sgB n.r.got q else sgT l q) :
    (if ack then hearE n.s q else rhE n.r q) = 0 ∧ Inv l ⟨if ack then hearS n.s q else n.s, if ack then n.r else rhS n.r q, n.to, n.back ++ (if ack then [] else [rhA n.r q]), n.out ++ (if ack then [] else rhO n.r q)⟩ ∧ (if ack then hearS n.s q else n.s).now = n.s.now := by
  cases ack
  · obtain ⟨h1, h2⟩ := hI.come hf hq
    exact ⟨h1, h2, rfl⟩
  · obtain ⟨h1, h2⟩ := hI.hear hq
    obtain ⟨_, _, _, _, _, h3⟩ := hI.s.hear hI.r.got hI.ack hq
    refine ⟨h1, ?_, h3⟩
    simp only [if_pos, List.append_nil]
    exact h2
theorem inv_sub {l : List (List UInt8)} {s : Sn} {r : Rc} {to back to' back' : List SX} {out : List (List UInt8)} (h : Inv l ⟨s, r, to.map SX.key, back.map SX.key, out⟩) (h1 : ∀ q ∈ to', q ∈ to) (h2 : ∀ q ∈ back', q ∈ back) : Inv l ⟨s, r, to'.map SX.key, back'.map SX.key, out⟩ :=
  ⟨h.s, h.r, h.ack, h.out, (fun q hq => by
    obtain ⟨x, hx, rfl⟩ := List.mem_map.1 hq
    exact h.to _ (List.mem_map.2 ⟨x, h1 x hx, rfl⟩)), (fun q hq => by
    obtain ⟨x, hx, rfl⟩ := List.mem_map.1 hq
    exact h.back _ (List.mem_map.2 ⟨x, h2 x hx, rfl⟩))⟩

set_option maxRecDepth 10000 in
set_option maxHeartbeats 2000000 in
theorem pick_ok (l : List (List UInt8)) (hf : fewL l) (i : Nat) (hi : i < 1000) (x : LnX) (bs : List SX) (hI : x.inv l i bs) (how at_ : Int) (ack : Bool)
    (w0 w : World) (L : List Asr) (M : Mem w0 w (x.L ++ Asr.star (bs.map SX.O) :: L)) :
    Fn Try.prog 28 [.pointer (some ⟨x.g, 0, none⟩), pickV how at_ ack] w fun v w' => ∃ (x' : LnX) (bs' : List SX),
      v = .bool true ∧ x.g = x'.g ∧ x'.inv l (i + 1) bs' ∧ Mem w0 w' (x'.L ++ Asr.star (bs'.map SX.O) :: L) := by
  obtain ⟨g, gs, As, cs, ps, s, gr, gm, ms, r, At, ct, to, Ab, cb, back, Ao, co, out⟩ := x
  obtain ⟨⟨his, hms⟩, hinv, hnow, hto, hback, hsub⟩ := hI
  have hinv0 := hinv
  obtain ⟨hS, hR, hack, hout, htoI, hbackI⟩ := hinv
  unfold LnX.L LnX.row at M
  simp only [List.cons_append, List.nil_append] at M
  unfold pickV
  dsimp only [LnX.n] at hinv0 his hms hnow hto hback hsub hS hR hack hout htoI hbackI M ⊢
  have hsok := hS.ok hf (by omega)
  have hrok := hR.ok hf
  have hml := hR.mlen
  have hf60 := hf.1
  have hol : out.length ≤ 60 := by have := congrArg List.length hout; simp at this; omega
  refine Fn.enter Try.func28 rfl Try.ntmps28 rfl ?_
  refine W.sub [(0, _), (1, _)] (.cons rfl (.cons rfl .nil)) ?_
  refine W.seq ?_
  refine W.region ?_
  refine WL.box rfl M rfl ?_
  intro g0_0 w M
  try simp only [Value.cells] at M
  try simp only [List.toList_toArray] at M
  refine WL.assign rfl rfl ?_
  refine WL.nil ?_
  refine WX.next ?_
  refine W.sub [(0, _), (3, _)] (.cons rfl (.cons rfl .nil)) ?_
  refine W.seq ?_
  refine W.region ?_
  refine WL.move rfl rfl ?_
  refine WL.nilCheck rfl rfl ?_
  refine WL.fieldR (off := 2) Try.underlying62 rfl rfl Try.sizeOf45 rfl rfl rfl ?_
  refine WL.loadR Try.isAgg45 rfl M (by first | ((repeat (first | with_reducible exact Has.here | with_reducible refine Has.there ?_)); done) | (repeat (first | exact Has.here | refine Has.there ?_))) rfl rfl ?_
  refine WL.assign rfl rfl ?_
  refine WL.nil ?_
  refine WX.next ?_
  refine W.sub [(0, _), (3, _), (5, _)] (.cons rfl (.cons rfl (.cons rfl .nil))) ?_
  refine W.joint (fun (z : Option Addr × Nat × List SX) => [(0, .pointer (some ⟨g, 0, none⟩)), (3, .pointer (some ⟨g0_0, 0, none⟩)), (5, .slice z.1 z.2.2.length z.2.1)]) (fun j w => Mem w0 w ((fun _ => [Asr.row g0_0 58 [.int .i64 how, .int .i64 at_, .bool ack], Asr.row g 62 [.pointer (some ⟨gs, 0, none⟩), .pointer (some ⟨gr, 0, none⟩), .slice At to.length ct, .slice Ab back.length cb, .slice Ao out.length co], SnX.O ⟨gs, As, cs, ps, s⟩, (RcX.of gr gm ms r).O, Asr.lst segE At ct to, Asr.lst segE Ab cb back, Asr.lst oxE Ao co out, Asr.star (out.map OX.O), Asr.star (bs.map SX.O)] ++ L) j) ∧ (fun z => z = if ack then (Ab, cb, back) else (At, ct, to)) j) ?_ ?_
  · refine W.seq ?_
    refine W.region ?_
    refine WL.fieldR (off := 2) Try.underlying58 rfl rfl Try.sizeOf4 rfl rfl rfl ?_
    refine WL.loadR Try.isAgg4 rfl M (by first | ((repeat (first | with_reducible exact Has.here | with_reducible refine Has.there ?_)); done) | (repeat (first | exact Has.here | refine Has.there ?_))) rfl rfl ?_
    refine WL.nil ?_
    refine WX.next ?_
    refine W.sub [(0, _), (3, _), (5, _), (13, _)] (.cons rfl (.cons rfl (.cons rfl (.cons rfl .nil)))) ?_
    refine W.cond rfl (fun c0 => ?_) (fun c0 => ?_)
    · (try simp only [Bool.not_eq_true'] at c0); (try simp only [Bool.not_eq_false'] at c0); (try simp only [decide_eq_true_eq] at c0); (try simp only [decide_eq_false_iff_not] at c0)
      obtain rfl : ack = true := by simpa using c0
      refine W.region ?_
      refine WL.move rfl rfl ?_
      refine WL.nilCheck rfl rfl ?_
      refine WL.fieldR (off := 3) Try.underlying62 rfl rfl Try.sizeOf45 rfl rfl rfl ?_
      refine WL.loadR Try.isAgg45 rfl M (by first | ((repeat (first | with_reducible exact Has.here | with_reducible refine Has.there ?_)); done) | (repeat (first | exact Has.here | refine Has.there ?_))) rfl rfl ?_
      refine WL.assign rfl rfl ?_
      refine WL.nil ?_
      refine WX.join ((Ab, cb, back)) (by (repeat' (first | exact envSub.nil | refine envSub.cons ?_ ?_)) <;> first | rfl | (refine congrArg some ?_; refine congrArg (Value.int _) ?_; first | omega | (dsimp only; omega)) | (simp; done) | (refine congrArg some ?_; dsimp only; congr 1; omega) | (simp; omega)) ⟨M.sel (by first | ((repeat (first | with_reducible exact Sel.refl | with_reducible exact Sel.nil | with_reducible exact Del.here | with_reducible apply Del.there | with_reducible apply Sel.cons | with_reducible apply Sel.drop)); done) | (repeat (first | exact Sel.refl | exact Sel.nil | exact Del.here | apply Del.there | apply Sel.cons | apply Sel.drop))), rfl⟩
    · (try simp only [Bool.not_eq_true'] at c0); (try simp only [Bool.not_eq_false'] at c0); (try simp only [decide_eq_true_eq] at c0); (try simp only [decide_eq_false_iff_not] at c0)
      obtain rfl : ack = false := by simpa using c0
      refine W.skip ?_
      refine WX.join ((At, ct, to)) (by (repeat' (first | exact envSub.nil | refine envSub.cons ?_ ?_)) <;> first | rfl | (refine congrArg some ?_; refine congrArg (Value.int _) ?_; first | omega | (dsimp only; omega)) | (simp; done) | (refine congrArg some ?_; dsimp only; congr 1; omega) | (simp; omega)) ⟨M.sel (by first | ((repeat (first | with_reducible exact Sel.refl | with_reducible exact Sel.nil | with_reducible exact Del.here | with_reducible apply Del.there | with_reducible apply Sel.cons | with_reducible apply Sel.drop)); done) | (repeat (first | exact Sel.refl | exact Sel.nil | exact Del.here | apply Del.there | apply Sel.cons | apply Sel.drop))), rfl⟩
  clear M; rintro (⟨A5, c5, l5⟩) w ⟨M, h5⟩; dsimp only at M h5 ⊢
  refine W.sub [(0, _), (3, _), (5, _)] (.cons rfl (.cons rfl (.cons rfl .nil))) ?_
  have R5 : RdL w segE A5 c5 l5 := by cases ack <;> cases h5 <;> exact (by first | with_reducible assumption | with_reducible exact RdL.mem (by with_reducible assumption) M | exact M.rdL (by first | ((repeat (first | with_reducible exact Has.here | with_reducible refine Has.there ?_)); done) | (repeat (first | exact Has.here | refine Has.there ?_))) | exact RdLH.at (by assumption) (M.sel (by first | ((repeat (first | with_reducible exact Sel.refl | with_reducible exact Sel.nil | with_reducible exact Del.here | with_reducible apply Del.there | with_reducible apply Sel.cons | with_reducible apply Sel.drop)); done) | (repeat (first | exact Sel.refl | exact Sel.nil | exact Del.here | apply Del.there | apply Sel.cons | apply Sel.drop)))) | exact RdL.nil _ _ _)
  have k5 : ∀ q ∈ l5, (if ack then sgB r.got q.key else sgT l q.key) := by
    cases ack <;> cases h5
    · exact fun q h => htoI _ (List.mem_map.2 ⟨q, h, rfl⟩)
    · exact fun q h => hbackI _ (List.mem_map.2 ⟨q, h, rfl⟩)
  refine W.seq ?_
  refine W.seq ?_
  refine W.region ?_
  refine WL.fieldR (off := 0) Try.underlying58 rfl rfl Try.sizeOf3 rfl rfl rfl ?_
  refine WL.loadR Try.isAgg3 rfl M (by first | ((repeat (first | with_reducible exact Has.here | with_reducible refine Has.there ?_)); done) | (repeat (first | exact Has.here | refine Has.there ?_))) rfl rfl ?_
  refine WL.lss rfl rfl rfl ?_
  refine WL.moveIf rfl rfl (fun c1 => ?_) (fun c1 => ?_)
  · refine WL.off rfl rfl rfl rfl ?_
    refine WL.off rfl rfl rfl rfl ?_
    refine WL.off rfl rfl rfl rfl ?_
    refine WL.pickT rfl rfl rfl ?_
    refine WL.move rfl rfl ?_
    refine WL.off rfl rfl rfl rfl ?_
    refine WL.off rfl rfl rfl rfl ?_
    refine WL.off rfl rfl rfl rfl ?_
    refine WL.pickT rfl rfl rfl ?_
    refine WL.move rfl rfl ?_
    refine WL.off rfl rfl rfl rfl ?_
    refine WL.off rfl rfl rfl rfl ?_
    refine WL.off rfl rfl rfl rfl ?_
    refine WL.pickT rfl rfl rfl ?_
    refine WL.nil ?_
    refine WX.next ?_
    refine W.sub [(0, _), (3, _), (5, _), (35, _)] (.cons rfl (.cons rfl (.cons rfl (.cons rfl .nil)))) ?_
    refine W.condT rfl ?_
    refine W.seq ?_
    refine W.drawM ([Asr.row g 62 [.pointer (some ⟨gs, 0, none⟩), .pointer (some ⟨gr, 0, none⟩), .slice At to.length ct, .slice Ab back.length cb, .slice Ao out.length co]]) (by kernel_rfl) (fun j => [4, 8, 9].contains j) M (by first | ((repeat (first | with_reducible exact Sel.refl | with_reducible exact Sel.nil | with_reducible exact Del.here | with_reducible apply Del.there | with_reducible apply Sel.cons | with_reducible apply Sel.drop)); done) | (repeat (first | exact Sel.refl | exact Sel.nil | exact Del.here | apply Del.there | apply Sel.cons | apply Sel.drop))) ?_
    clear M; intro M
    apply DG.pure_ [0, 1, 2, 3, 5, 6, 7] 7 rfl (by kernel_rfl) (by kernel_rfl)
    · intro w
      refine WL.move rfl rfl ?_
      refine WL.move rfl rfl ?_
      refine WL.nilCheck rfl rfl ?_
      refine WL.fieldR (off := 2) Try.underlying62 rfl rfl Try.sizeOf45 rfl rfl rfl ?_
      refine WL.move rfl rfl ?_
      refine WL.nilCheck rfl rfl ?_
      refine WL.fieldR (off := 0) Try.underlying62 rfl rfl Try.sizeOf24 rfl rfl rfl ?_
      exact Chain.end_ rfl
    apply DG.take [4, 8] 5 rfl (by kernel_rfl) (by kernel_rfl) (M.sel (by first | ((repeat (first | with_reducible exact Sel.refl | with_reducible exact Sel.nil | with_reducible exact Del.here | with_reducible apply Del.there | with_reducible apply Sel.cons | with_reducible apply Sel.drop)); done) | (repeat (first | exact Sel.refl | exact Sel.nil | exact Del.here | apply Del.there | apply Sel.cons | apply Sel.drop))))
    · intro w M
      refine WL.loadR Try.isAgg45 rfl M (by first | ((repeat (first | with_reducible exact Has.here | with_reducible refine Has.there ?_)); done) | (repeat (first | exact Has.here | refine Has.there ?_))) rfl rfl ?_
      refine WL.loadR Try.isAgg24 rfl M (by first | ((repeat (first | with_reducible exact Has.here | with_reducible refine Has.there ?_)); done) | (repeat (first | exact Has.here | refine Has.there ?_))) rfl rfl ?_
      exact Chain.end_ rfl
    refine DG.step 9 4 rfl (by kernel_rfl) ?_
    refine WL.call Try.call19 rfl (Tick2 ⟨gs, As, cs, ps, s⟩ his hsok _ _ _ _ M (by first | ((repeat (first | with_reducible exact Del.here | with_reducible apply Del.there)); done) | (repeat (first | exact Del.here | apply Del.there)))) rfl ?_
    rintro _ w ⟨B2, cB2, ps2, Ao2, co2, outs, rfl, his2, houts, M⟩
    dsimp only at his2 houts M
    have hol1 := congrArg List.length houts
    rw [List.length_map] at hol1
    have hol2 := tickO_len s
    have hw8 := hS.win
    refine DG.go (G := fun j => [4, 8, 9].contains j) (i := 9) (f' := 4) (done := [0, 1, 2, 3, 5, 6, 7, 4, 8]) (fun _ => M.sel (by first | ((repeat (first | with_reducible exact Sel.refl | with_reducible exact Sel.nil | with_reducible exact Del.here | with_reducible apply Del.there | with_reducible apply Sel.cons | with_reducible apply Sel.drop)); done) | (repeat (first | exact Sel.refl | exact Sel.nil | exact Del.here | apply Del.there | apply Sel.cons | apply Sel.drop)))) ?_
    refine DG.step 10 3 rfl (by kernel_rfl) ?_
    refine WL.appendL (E := segE) Try.elem36 rfl rfl M (by first | ((repeat (first | with_reducible exact Del.here | with_reducible apply Del.there)); done) | (repeat (first | exact Del.here | apply Del.there))) (by first | with_reducible assumption | with_reducible exact RdL.mem (by with_reducible assumption) M | exact M.rdL (by first | ((repeat (first | with_reducible exact Has.here | with_reducible refine Has.there ?_)); done) | (repeat (first | exact Has.here | refine Has.there ?_))) | exact RdLH.at (by assumption) (M.sel (by first | ((repeat (first | with_reducible exact Sel.refl | with_reducible exact Sel.nil | with_reducible exact Del.here | with_reducible apply Del.there | with_reducible apply Sel.cons | with_reducible apply Sel.drop)); done) | (repeat (first | exact Sel.refl | exact Sel.nil | exact Del.here | apply Del.there | apply Sel.cons | apply Sel.drop)))) | exact RdL.nil _ _ _) rfl rfl (by first | omega | (simp; done) | (simp; omega)) (by first | (simp only [maxLen]; omega) | (simp [maxLen]; done) | (simp [maxLen]; omega)) rfl ?_
    intro A5_10 cap5_10 w M
    refine DG.go (G := fun j => [4, 8, 9].contains j) (i := 10) (f' := 3) (done := [0, 1, 2, 3, 5, 6, 7, 4, 8, 9]) (fun h => by cases h) ?_
    apply DG.pure_ [11, 12] 1 rfl (by kernel_rfl) (by kernel_rfl)
    · intro w
      refine WL.nilCheck rfl rfl ?_
      refine WL.fieldR (off := 2) Try.underlying62 rfl rfl Try.sizeOf45 rfl rfl rfl ?_
      exact Chain.end_ rfl
    refine DG.step 13 0 rfl (by kernel_rfl) ?_
    refine WL.storeR Try.sizeOf45 rfl rfl rfl M (by first | ((repeat (first | with_reducible exact Has.here | with_reducible refine Has.there ?_)); done) | (repeat (first | exact Has.here | refine Has.there ?_))) (by repeat (first | exact SetAt.zero | apply SetAt.succ)) (by first | ((repeat (first | with_reducible exact Upd.here | with_reducible apply Upd.there)); done) | (repeat (first | exact Upd.here | apply Upd.there))) ?_
    intro w M
    refine DG.go (G := fun j => [4, 8, 9].contains j) (i := 13) (f' := 0) (done := [0, 1, 2, 3, 5, 6, 7, 4, 8, 9, 10, 11, 12]) (fun h => by cases h) ?_
    refine DG.end_ (by kernel_rfl) ?_
    refine WX.next ?_
    refine W.sub [] .nil ?_
    refine W.seq ?_
    refine W.region ?_
    refine WL.assign rfl rfl ?_
    refine WL.nil ?_
    refine WX.next ?_
    refine W.sub [(4, _)] (.cons rfl .nil) ?_
    refine W.ret ?_
    refine WX.thenRet ?_
    refine WX.ret1 rfl rfl ?_
    have M5 := Mem.starJoin (M.sel (K := Asr.star (bs.map SX.O) :: Asr.star (outs.map SX.O) :: Asr.row g 62 _ :: SnX.O ⟨gs, B2, cB2, ps2, tickS s⟩ :: (RcX.of gr gm ms r).O :: Asr.lst segE A5_10 cap5_10 (to ++ outs) :: Asr.lst segE Ab cb back :: Asr.lst oxE Ao co out :: Asr.star (out.map OX.O) :: L) (by first | ((repeat (first | with_reducible exact Sel.refl | with_reducible exact Sel.nil | with_reducible exact Del.here | with_reducible apply Del.there | with_reducible apply Sel.cons | with_reducible apply Sel.drop)); done) | (repeat (first | exact Sel.refl | exact Sel.nil | exact Del.here | apply Del.there | apply Sel.cons | apply Sel.drop))))
    rw [← List.map_append] at M5
    have hT := hinv0.tick
    unfold pickT at hT
    dsimp only at hT
    rw [← houts, ← List.map_append] at hT
    have hlen : (to ++ outs).length ≤ 8 * (i + 1) := by rw [List.length_append]; unfold Sn.k at hol2; omega
    have hsub2 : ∀ q ∈ to ++ outs, q ∈ bs ++ outs := fun q h => List.mem_append.2 ((List.mem_append.1 h).imp (hsub q) id)
    exact ⟨⟨g, gs, B2, cB2, ps2, tickS s, gr, gm, ms, r, A5_10, cap5_10, to ++ outs, Ab, cb, back, Ao, co, out⟩, bs ++ outs, rfl, rfl, ⟨⟨his2, hms⟩, hT, (by unfold tickS; dsimp only; omega), hlen, (by dsimp only; omega), hsub2⟩, M5.sel (by first | ((repeat (first | with_reducible exact Sel.refl | with_reducible exact Sel.nil | with_reducible exact Del.here | with_reducible apply Del.there | with_reducible apply Sel.cons | with_reducible apply Sel.drop)); done) | (repeat (first | exact Sel.refl | exact Sel.nil | exact Del.here | apply Del.there | apply Sel.cons | apply Sel.drop)))⟩
  · refine WL.on rfl rfl ?_
    refine WL.fieldR (off := 0) Try.underlying58 rfl rfl Try.sizeOf3 rfl rfl rfl ?_
    refine WL.on rfl rfl ?_
    refine WL.loadR Try.isAgg3 rfl M (by first | ((repeat (first | with_reducible exact Has.here | with_reducible refine Has.there ?_)); done) | (repeat (first | exact Has.here | refine Has.there ?_))) rfl rfl ?_
    refine WL.on rfl rfl ?_
    refine WL.gtr rfl rfl rfl ?_
    refine WL.pickF rfl rfl rfl ?_
    refine WL.moveIf rfl rfl (fun c2 => ?_) (fun c2 => ?_)
    · refine WL.off rfl rfl rfl rfl ?_
      refine WL.off rfl rfl rfl rfl ?_
      refine WL.off rfl rfl rfl rfl ?_
      refine WL.pickT rfl rfl rfl ?_
      refine WL.move rfl rfl ?_
      refine WL.off rfl rfl rfl rfl ?_
      refine WL.off rfl rfl rfl rfl ?_
      refine WL.off rfl rfl rfl rfl ?_
      refine WL.pickT rfl rfl rfl ?_
      refine WL.nil ?_
      refine WX.next ?_
      refine W.sub [(0, _), (3, _), (5, _), (35, _)] (.cons rfl (.cons rfl (.cons rfl (.cons rfl .nil)))) ?_
      refine W.condT rfl ?_
      refine W.seq ?_
      refine W.drawM ([Asr.row g 62 [.pointer (some ⟨gs, 0, none⟩), .pointer (some ⟨gr, 0, none⟩), .slice At to.length ct, .slice Ab back.length cb, .slice Ao out.length co]]) (by kernel_rfl) (fun j => [4, 8, 9].contains j) M (by first | ((repeat (first | with_reducible exact Sel.refl | with_reducible exact Sel.nil | with_reducible exact Del.here | with_reducible apply Del.there | with_reducible apply Sel.cons | with_reducible apply Sel.drop)); done) | (repeat (first | exact Sel.refl | exact Sel.nil | exact Del.here | apply Del.there | apply Sel.cons | apply Sel.drop))) ?_
      clear M; intro M
      apply DG.pure_ [0, 1, 2, 3, 5, 6, 7] 7 rfl (by kernel_rfl) (by kernel_rfl)
      · intro w
        refine WL.move rfl rfl ?_
        refine WL.move rfl rfl ?_
        refine WL.nilCheck rfl rfl ?_
        refine WL.fieldR (off := 2) Try.underlying62 rfl rfl Try.sizeOf45 rfl rfl rfl ?_
        refine WL.move rfl rfl ?_
        refine WL.nilCheck rfl rfl ?_
        refine WL.fieldR (off := 0) Try.underlying62 rfl rfl Try.sizeOf24 rfl rfl rfl ?_
        exact Chain.end_ rfl
      apply DG.take [4, 8] 5 rfl (by kernel_rfl) (by kernel_rfl) (M.sel (by first | ((repeat (first | with_reducible exact Sel.refl | with_reducible exact Sel.nil | with_reducible exact Del.here | with_reducible apply Del.there | with_reducible apply Sel.cons | with_reducible apply Sel.drop)); done) | (repeat (first | exact Sel.refl | exact Sel.nil | exact Del.here | apply Del.there | apply Sel.cons | apply Sel.drop))))
      · intro w M
        refine WL.loadR Try.isAgg45 rfl M (by first | ((repeat (first | with_reducible exact Has.here | with_reducible refine Has.there ?_)); done) | (repeat (first | exact Has.here | refine Has.there ?_))) rfl rfl ?_
        refine WL.loadR Try.isAgg24 rfl M (by first | ((repeat (first | with_reducible exact Has.here | with_reducible refine Has.there ?_)); done) | (repeat (first | exact Has.here | refine Has.there ?_))) rfl rfl ?_
        exact Chain.end_ rfl
      refine DG.step 9 4 rfl (by kernel_rfl) ?_
      refine WL.call Try.call19 rfl (Tick2 ⟨gs, As, cs, ps, s⟩ his hsok _ _ _ _ M (by first | ((repeat (first | with_reducible exact Del.here | with_reducible apply Del.there)); done) | (repeat (first | exact Del.here | apply Del.there)))) rfl ?_
      rintro _ w ⟨B2, cB2, ps2, Ao2, co2, outs, rfl, his2, houts, M⟩
      dsimp only at his2 houts M
      have hol1 := congrArg List.length houts
      rw [List.length_map] at hol1
      have hol2 := tickO_len s
      have hw8 := hS.win
      refine DG.go (G := fun j => [4, 8, 9].contains j) (i := 9) (f' := 4) (done := [0, 1, 2, 3, 5, 6, 7, 4, 8]) (fun _ => M.sel (by first | ((repeat (first | with_reducible exact Sel.refl | with_reducible exact Sel.nil | with_reducible exact Del.here | with_reducible apply Del.there | with_reducible apply Sel.cons | with_reducible apply Sel.drop)); done) | (repeat (first | exact Sel.refl | exact Sel.nil | exact Del.here | apply Del.there | apply Sel.cons | apply Sel.drop)))) ?_
      refine DG.step 10 3 rfl (by kernel_rfl) ?_
      refine WL.appendL (E := segE) Try.elem36 rfl rfl M (by first | ((repeat (first | with_reducible exact Del.here | with_reducible apply Del.there)); done) | (repeat (first | exact Del.here | apply Del.there))) (by first | with_reducible assumption | with_reducible exact RdL.mem (by with_reducible assumption) M | exact M.rdL (by first | ((repeat (first | with_reducible exact Has.here | with_reducible refine Has.there ?_)); done) | (repeat (first | exact Has.here | refine Has.there ?_))) | exact RdLH.at (by assumption) (M.sel (by first | ((repeat (first | with_reducible exact Sel.refl | with_reducible exact Sel.nil | with_reducible exact Del.here | with_reducible apply Del.there | with_reducible apply Sel.cons | with_reducible apply Sel.drop)); done) | (repeat (first | exact Sel.refl | exact Sel.nil | exact Del.here | apply Del.there | apply Sel.cons | apply Sel.drop)))) | exact RdL.nil _ _ _) rfl rfl (by first | omega | (simp; done) | (simp; omega)) (by first | (simp only [maxLen]; omega) | (simp [maxLen]; done) | (simp [maxLen]; omega)) rfl ?_
      intro A5_10 cap5_10 w M
      refine DG.go (G := fun j => [4, 8, 9].contains j) (i := 10) (f' := 3) (done := [0, 1, 2, 3, 5, 6, 7, 4, 8, 9]) (fun h => by cases h) ?_
      apply DG.pure_ [11, 12] 1 rfl (by kernel_rfl) (by kernel_rfl)
      · intro w
        refine WL.nilCheck rfl rfl ?_
        refine WL.fieldR (off := 2) Try.underlying62 rfl rfl Try.sizeOf45 rfl rfl rfl ?_
        exact Chain.end_ rfl
      refine DG.step 13 0 rfl (by kernel_rfl) ?_
      refine WL.storeR Try.sizeOf45 rfl rfl rfl M (by first | ((repeat (first | with_reducible exact Has.here | with_reducible refine Has.there ?_)); done) | (repeat (first | exact Has.here | refine Has.there ?_))) (by repeat (first | exact SetAt.zero | apply SetAt.succ)) (by first | ((repeat (first | with_reducible exact Upd.here | with_reducible apply Upd.there)); done) | (repeat (first | exact Upd.here | apply Upd.there))) ?_
      intro w M
      refine DG.go (G := fun j => [4, 8, 9].contains j) (i := 13) (f' := 0) (done := [0, 1, 2, 3, 5, 6, 7, 4, 8, 9, 10, 11, 12]) (fun h => by cases h) ?_
      refine DG.end_ (by kernel_rfl) ?_
      refine WX.next ?_
      refine W.sub [] .nil ?_
      refine W.seq ?_
      refine W.region ?_
      refine WL.assign rfl rfl ?_
      refine WL.nil ?_
      refine WX.next ?_
      refine W.sub [(4, _)] (.cons rfl .nil) ?_
      refine W.ret ?_
      refine WX.thenRet ?_
      refine WX.ret1 rfl rfl ?_
      have M5 := Mem.starJoin (M.sel (K := Asr.star (bs.map SX.O) :: Asr.star (outs.map SX.O) :: Asr.row g 62 _ :: SnX.O ⟨gs, B2, cB2, ps2, tickS s⟩ :: (RcX.of gr gm ms r).O :: Asr.lst segE A5_10 cap5_10 (to ++ outs) :: Asr.lst segE Ab cb back :: Asr.lst oxE Ao co out :: Asr.star (out.map OX.O) :: L) (by first | ((repeat (first | with_reducible exact Sel.refl | with_reducible exact Sel.nil | with_reducible exact Del.here | with_reducible apply Del.there | with_reducible apply Sel.cons | with_reducible apply Sel.drop)); done) | (repeat (first | exact Sel.refl | exact Sel.nil | exact Del.here | apply Del.there | apply Sel.cons | apply Sel.drop))))
      rw [← List.map_append] at M5
      have hT := hinv0.tick
      unfold pickT at hT
      dsimp only at hT
      rw [← houts, ← List.map_append] at hT
      have hlen : (to ++ outs).length ≤ 8 * (i + 1) := by rw [List.length_append]; unfold Sn.k at hol2; omega
      have hsub2 : ∀ q ∈ to ++ outs, q ∈ bs ++ outs := fun q h => List.mem_append.2 ((List.mem_append.1 h).imp (hsub q) id)
      exact ⟨⟨g, gs, B2, cB2, ps2, tickS s, gr, gm, ms, r, A5_10, cap5_10, to ++ outs, Ab, cb, back, Ao, co, out⟩, bs ++ outs, rfl, rfl, ⟨⟨his2, hms⟩, hT, (by unfold tickS; dsimp only; omega), hlen, (by dsimp only; omega), hsub2⟩, M5.sel (by first | ((repeat (first | with_reducible exact Sel.refl | with_reducible exact Sel.nil | with_reducible exact Del.here | with_reducible apply Del.there | with_reducible apply Sel.cons | with_reducible apply Sel.drop)); done) | (repeat (first | exact Sel.refl | exact Sel.nil | exact Del.here | apply Del.there | apply Sel.cons | apply Sel.drop)))⟩
    · refine WL.on rfl rfl ?_
      refine WL.move rfl rfl ?_
      refine WL.on rfl rfl ?_
      refine WL.len Try.underlying45 rfl rfl ?_
      refine WL.on rfl rfl ?_
      refine WL.eqI rfl rfl rfl ?_
      refine WL.pickF rfl rfl rfl ?_
      refine WL.moveIf rfl rfl (fun c3 => ?_) (fun c3 => ?_)
      · refine WL.off rfl rfl rfl rfl ?_
        refine WL.off rfl rfl rfl rfl ?_
        refine WL.off rfl rfl rfl rfl ?_
        refine WL.pickT rfl rfl rfl ?_
        refine WL.nil ?_
        refine WX.next ?_
        refine W.sub [(0, _), (3, _), (5, _), (35, _)] (.cons rfl (.cons rfl (.cons rfl (.cons rfl .nil)))) ?_
        refine W.condT rfl ?_
        refine W.seq ?_
        refine W.drawM ([Asr.row g 62 [.pointer (some ⟨gs, 0, none⟩), .pointer (some ⟨gr, 0, none⟩), .slice At to.length ct, .slice Ab back.length cb, .slice Ao out.length co]]) (by kernel_rfl) (fun j => [4, 8, 9].contains j) M (by first | ((repeat (first | with_reducible exact Sel.refl | with_reducible exact Sel.nil | with_reducible exact Del.here | with_reducible apply Del.there | with_reducible apply Sel.cons | with_reducible apply Sel.drop)); done) | (repeat (first | exact Sel.refl | exact Sel.nil | exact Del.here | apply Del.there | apply Sel.cons | apply Sel.drop))) ?_
        clear M; intro M
        apply DG.pure_ [0, 1, 2, 3, 5, 6, 7] 7 rfl (by kernel_rfl) (by kernel_rfl)
        · intro w
          refine WL.move rfl rfl ?_
          refine WL.move rfl rfl ?_
          refine WL.nilCheck rfl rfl ?_
          refine WL.fieldR (off := 2) Try.underlying62 rfl rfl Try.sizeOf45 rfl rfl rfl ?_
          refine WL.move rfl rfl ?_
          refine WL.nilCheck rfl rfl ?_
          refine WL.fieldR (off := 0) Try.underlying62 rfl rfl Try.sizeOf24 rfl rfl rfl ?_
          exact Chain.end_ rfl
        apply DG.take [4, 8] 5 rfl (by kernel_rfl) (by kernel_rfl) (M.sel (by first | ((repeat (first | with_reducible exact Sel.refl | with_reducible exact Sel.nil | with_reducible exact Del.here | with_reducible apply Del.there | with_reducible apply Sel.cons | with_reducible apply Sel.drop)); done) | (repeat (first | exact Sel.refl | exact Sel.nil | exact Del.here | apply Del.there | apply Sel.cons | apply Sel.drop))))
        · intro w M
          refine WL.loadR Try.isAgg45 rfl M (by first | ((repeat (first | with_reducible exact Has.here | with_reducible refine Has.there ?_)); done) | (repeat (first | exact Has.here | refine Has.there ?_))) rfl rfl ?_
          refine WL.loadR Try.isAgg24 rfl M (by first | ((repeat (first | with_reducible exact Has.here | with_reducible refine Has.there ?_)); done) | (repeat (first | exact Has.here | refine Has.there ?_))) rfl rfl ?_
          exact Chain.end_ rfl
        refine DG.step 9 4 rfl (by kernel_rfl) ?_
        refine WL.call Try.call19 rfl (Tick2 ⟨gs, As, cs, ps, s⟩ his hsok _ _ _ _ M (by first | ((repeat (first | with_reducible exact Del.here | with_reducible apply Del.there)); done) | (repeat (first | exact Del.here | apply Del.there)))) rfl ?_
        rintro _ w ⟨B2, cB2, ps2, Ao2, co2, outs, rfl, his2, houts, M⟩
        dsimp only at his2 houts M
        have hol1 := congrArg List.length houts
        rw [List.length_map] at hol1
        have hol2 := tickO_len s
        have hw8 := hS.win
        refine DG.go (G := fun j => [4, 8, 9].contains j) (i := 9) (f' := 4) (done := [0, 1, 2, 3, 5, 6, 7, 4, 8]) (fun _ => M.sel (by first | ((repeat (first | with_reducible exact Sel.refl | with_reducible exact Sel.nil | with_reducible exact Del.here | with_reducible apply Del.there | with_reducible apply Sel.cons | with_reducible apply Sel.drop)); done) | (repeat (first | exact Sel.refl | exact Sel.nil | exact Del.here | apply Del.there | apply Sel.cons | apply Sel.drop)))) ?_
        refine DG.step 10 3 rfl (by kernel_rfl) ?_
        refine WL.appendL (E := segE) Try.elem36 rfl rfl M (by first | ((repeat (first | with_reducible exact Del.here | with_reducible apply Del.there)); done) | (repeat (first | exact Del.here | apply Del.there))) (by first | with_reducible assumption | with_reducible exact RdL.mem (by with_reducible assumption) M | exact M.rdL (by first | ((repeat (first | with_reducible exact Has.here | with_reducible refine Has.there ?_)); done) | (repeat (first | exact Has.here | refine Has.there ?_))) | exact RdLH.at (by assumption) (M.sel (by first | ((repeat (first | with_reducible exact Sel.refl | with_reducible exact Sel.nil | with_reducible exact Del.here | with_reducible apply Del.there | with_reducible apply Sel.cons | with_reducible apply Sel.drop)); done) | (repeat (first | exact Sel.refl | exact Sel.nil | exact Del.here | apply Del.there | apply Sel.cons | apply Sel.drop)))) | exact RdL.nil _ _ _) rfl rfl (by first | omega | (simp; done) | (simp; omega)) (by first | (simp only [maxLen]; omega) | (simp [maxLen]; done) | (simp [maxLen]; omega)) rfl ?_
        intro A5_10 cap5_10 w M
        refine DG.go (G := fun j => [4, 8, 9].contains j) (i := 10) (f' := 3) (done := [0, 1, 2, 3, 5, 6, 7, 4, 8, 9]) (fun h => by cases h) ?_
        apply DG.pure_ [11, 12] 1 rfl (by kernel_rfl) (by kernel_rfl)
        · intro w
          refine WL.nilCheck rfl rfl ?_
          refine WL.fieldR (off := 2) Try.underlying62 rfl rfl Try.sizeOf45 rfl rfl rfl ?_
          exact Chain.end_ rfl
        refine DG.step 13 0 rfl (by kernel_rfl) ?_
        refine WL.storeR Try.sizeOf45 rfl rfl rfl M (by first | ((repeat (first | with_reducible exact Has.here | with_reducible refine Has.there ?_)); done) | (repeat (first | exact Has.here | refine Has.there ?_))) (by repeat (first | exact SetAt.zero | apply SetAt.succ)) (by first | ((repeat (first | with_reducible exact Upd.here | with_reducible apply Upd.there)); done) | (repeat (first | exact Upd.here | apply Upd.there))) ?_
        intro w M
        refine DG.go (G := fun j => [4, 8, 9].contains j) (i := 13) (f' := 0) (done := [0, 1, 2, 3, 5, 6, 7, 4, 8, 9, 10, 11, 12]) (fun h => by cases h) ?_
        refine DG.end_ (by kernel_rfl) ?_
        refine WX.next ?_
        refine W.sub [] .nil ?_
        refine W.seq ?_
        refine W.region ?_
        refine WL.assign rfl rfl ?_
        refine WL.nil ?_
        refine WX.next ?_
        refine W.sub [(4, _)] (.cons rfl .nil) ?_
        refine W.ret ?_
        refine WX.thenRet ?_
        refine WX.ret1 rfl rfl ?_
        have M5 := Mem.starJoin (M.sel (K := Asr.star (bs.map SX.O) :: Asr.star (outs.map SX.O) :: Asr.row g 62 _ :: SnX.O ⟨gs, B2, cB2, ps2, tickS s⟩ :: (RcX.of gr gm ms r).O :: Asr.lst segE A5_10 cap5_10 (to ++ outs) :: Asr.lst segE Ab cb back :: Asr.lst oxE Ao co out :: Asr.star (out.map OX.O) :: L) (by first | ((repeat (first | with_reducible exact Sel.refl | with_reducible exact Sel.nil | with_reducible exact Del.here | with_reducible apply Del.there | with_reducible apply Sel.cons | with_reducible apply Sel.drop)); done) | (repeat (first | exact Sel.refl | exact Sel.nil | exact Del.here | apply Del.there | apply Sel.cons | apply Sel.drop))))
        rw [← List.map_append] at M5
        have hT := hinv0.tick
        unfold pickT at hT
        dsimp only at hT
        rw [← houts, ← List.map_append] at hT
        have hlen : (to ++ outs).length ≤ 8 * (i + 1) := by rw [List.length_append]; unfold Sn.k at hol2; omega
        have hsub2 : ∀ q ∈ to ++ outs, q ∈ bs ++ outs := fun q h => List.mem_append.2 ((List.mem_append.1 h).imp (hsub q) id)
        exact ⟨⟨g, gs, B2, cB2, ps2, tickS s, gr, gm, ms, r, A5_10, cap5_10, to ++ outs, Ab, cb, back, Ao, co, out⟩, bs ++ outs, rfl, rfl, ⟨⟨his2, hms⟩, hT, (by unfold tickS; dsimp only; omega), hlen, (by dsimp only; omega), hsub2⟩, M5.sel (by first | ((repeat (first | with_reducible exact Sel.refl | with_reducible exact Sel.nil | with_reducible exact Del.here | with_reducible apply Del.there | with_reducible apply Sel.cons | with_reducible apply Sel.drop)); done) | (repeat (first | exact Sel.refl | exact Sel.nil | exact Del.here | apply Del.there | apply Sel.cons | apply Sel.drop)))⟩
      · refine WL.on rfl rfl ?_
        refine WL.move rfl rfl ?_
        refine WL.on rfl rfl ?_
        refine WL.len Try.underlying45 rfl rfl ?_
        refine WL.on rfl rfl ?_
        refine WL.gtr rfl rfl rfl ?_
        refine WL.pickF rfl rfl rfl ?_
        refine WL.nil ?_
        refine WX.next ?_
        refine W.sub [(0, _), (3, _), (5, _), (35, _)] (.cons rfl (.cons rfl (.cons rfl (.cons rfl .nil)))) ?_
        refine W.ite rfl (fun c4 => ?_) (fun c4 => ?_)
        · refine W.seq ?_
          refine W.drawM ([Asr.row g 62 [.pointer (some ⟨gs, 0, none⟩), .pointer (some ⟨gr, 0, none⟩), .slice At to.length ct, .slice Ab back.length cb, .slice Ao out.length co]]) (by kernel_rfl) (fun j => [4, 8, 9].contains j) M (by first | ((repeat (first | with_reducible exact Sel.refl | with_reducible exact Sel.nil | with_reducible exact Del.here | with_reducible apply Del.there | with_reducible apply Sel.cons | with_reducible apply Sel.drop)); done) | (repeat (first | exact Sel.refl | exact Sel.nil | exact Del.here | apply Del.there | apply Sel.cons | apply Sel.drop))) ?_
          clear M; intro M
          apply DG.pure_ [0, 1, 2, 3, 5, 6, 7] 7 rfl (by kernel_rfl) (by kernel_rfl)
          · intro w
            refine WL.move rfl rfl ?_
            refine WL.move rfl rfl ?_
            refine WL.nilCheck rfl rfl ?_
            refine WL.fieldR (off := 2) Try.underlying62 rfl rfl Try.sizeOf45 rfl rfl rfl ?_
            refine WL.move rfl rfl ?_
            refine WL.nilCheck rfl rfl ?_
            refine WL.fieldR (off := 0) Try.underlying62 rfl rfl Try.sizeOf24 rfl rfl rfl ?_
            exact Chain.end_ rfl
          apply DG.take [4, 8] 5 rfl (by kernel_rfl) (by kernel_rfl) (M.sel (by first | ((repeat (first | with_reducible exact Sel.refl | with_reducible exact Sel.nil | with_reducible exact Del.here | with_reducible apply Del.there | with_reducible apply Sel.cons | with_reducible apply Sel.drop)); done) | (repeat (first | exact Sel.refl | exact Sel.nil | exact Del.here | apply Del.there | apply Sel.cons | apply Sel.drop))))
          · intro w M
            refine WL.loadR Try.isAgg45 rfl M (by first | ((repeat (first | with_reducible exact Has.here | with_reducible refine Has.there ?_)); done) | (repeat (first | exact Has.here | refine Has.there ?_))) rfl rfl ?_
            refine WL.loadR Try.isAgg24 rfl M (by first | ((repeat (first | with_reducible exact Has.here | with_reducible refine Has.there ?_)); done) | (repeat (first | exact Has.here | refine Has.there ?_))) rfl rfl ?_
            exact Chain.end_ rfl
          refine DG.step 9 4 rfl (by kernel_rfl) ?_
          refine WL.call Try.call19 rfl (Tick2 ⟨gs, As, cs, ps, s⟩ his hsok _ _ _ _ M (by first | ((repeat (first | with_reducible exact Del.here | with_reducible apply Del.there)); done) | (repeat (first | exact Del.here | apply Del.there)))) rfl ?_
          rintro _ w ⟨B2, cB2, ps2, Ao2, co2, outs, rfl, his2, houts, M⟩
          dsimp only at his2 houts M
          have hol1 := congrArg List.length houts
          rw [List.length_map] at hol1
          have hol2 := tickO_len s
          have hw8 := hS.win
          refine DG.go (G := fun j => [4, 8, 9].contains j) (i := 9) (f' := 4) (done := [0, 1, 2, 3, 5, 6, 7, 4, 8]) (fun _ => M.sel (by first | ((repeat (first | with_reducible exact Sel.refl | with_reducible exact Sel.nil | with_reducible exact Del.here | with_reducible apply Del.there | with_reducible apply Sel.cons | with_reducible apply Sel.drop)); done) | (repeat (first | exact Sel.refl | exact Sel.nil | exact Del.here | apply Del.there | apply Sel.cons | apply Sel.drop)))) ?_
          refine DG.step 10 3 rfl (by kernel_rfl) ?_
          refine WL.appendL (E := segE) Try.elem36 rfl rfl M (by first | ((repeat (first | with_reducible exact Del.here | with_reducible apply Del.there)); done) | (repeat (first | exact Del.here | apply Del.there))) (by first | with_reducible assumption | with_reducible exact RdL.mem (by with_reducible assumption) M | exact M.rdL (by first | ((repeat (first | with_reducible exact Has.here | with_reducible refine Has.there ?_)); done) | (repeat (first | exact Has.here | refine Has.there ?_))) | exact RdLH.at (by assumption) (M.sel (by first | ((repeat (first | with_reducible exact Sel.refl | with_reducible exact Sel.nil | with_reducible exact Del.here | with_reducible apply Del.there | with_reducible apply Sel.cons | with_reducible apply Sel.drop)); done) | (repeat (first | exact Sel.refl | exact Sel.nil | exact Del.here | apply Del.there | apply Sel.cons | apply Sel.drop)))) | exact RdL.nil _ _ _) rfl rfl (by first | omega | (simp; done) | (simp; omega)) (by first | (simp only [maxLen]; omega) | (simp [maxLen]; done) | (simp [maxLen]; omega)) rfl ?_
          intro A5_10 cap5_10 w M
          refine DG.go (G := fun j => [4, 8, 9].contains j) (i := 10) (f' := 3) (done := [0, 1, 2, 3, 5, 6, 7, 4, 8, 9]) (fun h => by cases h) ?_
          apply DG.pure_ [11, 12] 1 rfl (by kernel_rfl) (by kernel_rfl)
          · intro w
            refine WL.nilCheck rfl rfl ?_
            refine WL.fieldR (off := 2) Try.underlying62 rfl rfl Try.sizeOf45 rfl rfl rfl ?_
            exact Chain.end_ rfl
          refine DG.step 13 0 rfl (by kernel_rfl) ?_
          refine WL.storeR Try.sizeOf45 rfl rfl rfl M (by first | ((repeat (first | with_reducible exact Has.here | with_reducible refine Has.there ?_)); done) | (repeat (first | exact Has.here | refine Has.there ?_))) (by repeat (first | exact SetAt.zero | apply SetAt.succ)) (by first | ((repeat (first | with_reducible exact Upd.here | with_reducible apply Upd.there)); done) | (repeat (first | exact Upd.here | apply Upd.there))) ?_
          intro w M
          refine DG.go (G := fun j => [4, 8, 9].contains j) (i := 13) (f' := 0) (done := [0, 1, 2, 3, 5, 6, 7, 4, 8, 9, 10, 11, 12]) (fun h => by cases h) ?_
          refine DG.end_ (by kernel_rfl) ?_
          refine WX.next ?_
          refine W.sub [] .nil ?_
          refine W.seq ?_
          refine W.region ?_
          refine WL.assign rfl rfl ?_
          refine WL.nil ?_
          refine WX.next ?_
          refine W.sub [(4, _)] (.cons rfl .nil) ?_
          refine W.ret ?_
          refine WX.thenRet ?_
          refine WX.ret1 rfl rfl ?_
          have M5 := Mem.starJoin (M.sel (K := Asr.star (bs.map SX.O) :: Asr.star (outs.map SX.O) :: Asr.row g 62 _ :: SnX.O ⟨gs, B2, cB2, ps2, tickS s⟩ :: (RcX.of gr gm ms r).O :: Asr.lst segE A5_10 cap5_10 (to ++ outs) :: Asr.lst segE Ab cb back :: Asr.lst oxE Ao co out :: Asr.star (out.map OX.O) :: L) (by first | ((repeat (first | with_reducible exact Sel.refl | with_reducible exact Sel.nil | with_reducible exact Del.here | with_reducible apply Del.there | with_reducible apply Sel.cons | with_reducible apply Sel.drop)); done) | (repeat (first | exact Sel.refl | exact Sel.nil | exact Del.here | apply Del.there | apply Sel.cons | apply Sel.drop))))
          rw [← List.map_append] at M5
          have hT := hinv0.tick
          unfold pickT at hT
          dsimp only at hT
          rw [← houts, ← List.map_append] at hT
          have hlen : (to ++ outs).length ≤ 8 * (i + 1) := by rw [List.length_append]; unfold Sn.k at hol2; omega
          have hsub2 : ∀ q ∈ to ++ outs, q ∈ bs ++ outs := fun q h => List.mem_append.2 ((List.mem_append.1 h).imp (hsub q) id)
          exact ⟨⟨g, gs, B2, cB2, ps2, tickS s, gr, gm, ms, r, A5_10, cap5_10, to ++ outs, Ab, cb, back, Ao, co, out⟩, bs ++ outs, rfl, rfl, ⟨⟨his2, hms⟩, hT, (by unfold tickS; dsimp only; omega), hlen, (by dsimp only; omega), hsub2⟩, M5.sel (by first | ((repeat (first | with_reducible exact Sel.refl | with_reducible exact Sel.nil | with_reducible exact Del.here | with_reducible apply Del.there | with_reducible apply Sel.cons | with_reducible apply Sel.drop)); done) | (repeat (first | exact Sel.refl | exact Sel.nil | exact Del.here | apply Del.there | apply Sel.cons | apply Sel.drop)))⟩
        · refine W.skip ?_
          refine WX.next ?_
          refine W.seq ?_
          obtain ⟨k0, hk0⟩ : ∃ k0 : Nat, IntKind.u64.wrap at_ = (k0 : Int) := ⟨(at_ % 18446744073709551616).toNat, by rw [mU64]; omega⟩
          have hlt := Nat.mod_lt k0 (show 0 < l5.length by omega)
          refine W.region ?_
          refine WL.fieldR (off := 1) Try.underlying58 rfl rfl Try.sizeOf3 rfl rfl rfl ?_
          refine WL.loadR Try.isAgg3 rfl M (by first | ((repeat (first | with_reducible exact Has.here | with_reducible refine Has.there ?_)); done) | (repeat (first | exact Has.here | refine Has.there ?_))) rfl rfl ?_
          refine WL.conv Try.underlying3 Try.underlying98 rfl hk0 rfl ?_
          refine WL.move rfl rfl ?_
          refine WL.len Try.underlying45 rfl rfl ?_
          refine WL.conv Try.underlying3 Try.underlying98 rfl (by first | exact wU64 (by omega) | exact mU64 _ | rfl) rfl ?_
          refine WL.rem rfl rfl (by omega) (remN (by omega)) rfl ?_
          refine WL.conv Try.underlying98 Try.underlying3 rfl (by first | exact wI64 (by omega) | rfl) rfl ?_
          refine WL.assign rfl rfl ?_
          refine WL.nil ?_
          refine WX.next ?_
          refine W.sub [(0, _), (3, _), (5, _), (6, _)] (.cons rfl (.cons rfl (.cons rfl (.cons rfl .nil)))) ?_
          refine W.seq ?_
          rw [← Int.natCast_emod]
          generalize k0 % l5.length = k7 at hlt ⊢
          have hq5 := k5 _ (el_mem hlt)
          have hb5 : (el l5 k7).life < 18446744073709551616 ∧ (el l5 k7).seq < 18446744073709551616 := by
            cases ack
            · obtain ⟨a1, _, k, a2, a3, _⟩ := hq5
              dsimp only [SX.key] at a1 a3
              exact ⟨by omega, by omega⟩
            · obtain ⟨a1, _, _, a3⟩ := hq5
              dsimp only [SX.key] at a1 a3
              have := hR.got
              exact ⟨by omega, by omega⟩
          have hbs : ack = false → el l5 k7 ∈ bs := by
            intro e
            subst e
            cases h5
            exact hsub _ (el_mem hlt)
          refine W.region ?_
          refine WL.move rfl rfl ?_
          refine WL.move rfl rfl ?_
          refine WL.idxA Try.underlying45 Try.sizeOf36 rfl rfl (RdL.isSome (E := segE) (by first | with_reducible assumption | with_reducible exact RdL.mem (by with_reducible assumption) M | exact M.rdL (by first | ((repeat (first | with_reducible exact Has.here | with_reducible refine Has.there ?_)); done) | (repeat (first | exact Has.here | refine Has.there ?_))) | exact RdLH.at (by assumption) (M.sel (by first | ((repeat (first | with_reducible exact Sel.refl | with_reducible exact Sel.nil | with_reducible exact Del.here | with_reducible apply Del.there | with_reducible apply Sel.cons | with_reducible apply Sel.drop)); done) | (repeat (first | exact Sel.refl | exact Sel.nil | exact Del.here | apply Del.there | apply Sel.cons | apply Sel.drop)))) | exact RdL.nil _ _ _) (by omega)) (by omega) (by omega) (by first | exact rfl | exact (Int.toNat_of_nonneg (by omega)).symm) rfl ?_
          refine WL.loadL (E := segE) (cs := [_, _, _, _]) Try.isAgg36 Try.sizeOf36 rfl (by first | with_reducible assumption | with_reducible exact RdL.mem (by with_reducible assumption) M | exact M.rdL (by first | ((repeat (first | with_reducible exact Has.here | with_reducible refine Has.there ?_)); done) | (repeat (first | exact Has.here | refine Has.there ?_))) | exact RdLH.at (by assumption) (M.sel (by first | ((repeat (first | with_reducible exact Sel.refl | with_reducible exact Sel.nil | with_reducible exact Del.here | with_reducible apply Del.there | with_reducible apply Sel.cons | with_reducible apply Sel.drop)); done) | (repeat (first | exact Sel.refl | exact Sel.nil | exact Del.here | apply Del.there | apply Sel.cons | apply Sel.drop)))) | exact RdL.nil _ _ _) rfl (by omega) rfl rfl ?_
          refine WL.alloc Try.zeroValue36 M rfl ?_
          intro g8_4 w M
          try simp only [Value.cells] at M
          try simp only [List.toList_toArray] at M
          refine WL.storeWA Try.sizeOf36 rfl rfl (by repeat (first | exact oneNil | refine oneCons rfl ?_)) rfl rfl M (by first | ((repeat (first | with_reducible exact Upd.here | with_reducible apply Upd.there)); done) | (repeat (first | exact Upd.here | apply Upd.there))) ?_
          intro w M
          refine WL.nil ?_
          refine WX.next ?_
          refine W.sub [(0, _), (3, _), (6, _), (7, _)] (.cons rfl (.cons rfl (.cons rfl (.cons rfl .nil)))) ?_
          refine W.joint (fun (_ : (Option Addr × Nat × List SX) × (Option Addr × Nat × List SX)) => [(0, .pointer (some ⟨g, 0, none⟩)), (3, .pointer (some ⟨g0_0, 0, none⟩)), (7, .pointer (some ⟨g8_4, 0, none⟩))]) (fun j w => Mem w0 w ((fun z => [Asr.row g8_4 36 [.int .u64 ((el l5 k7).life : Int), .int .u64 ((el l5 k7).seq : Int), .bool (el l5 k7).ack, (el l5 k7).x.v], Asr.row g0_0 58 [.int .i64 how, .int .i64 at_, .bool ack], Asr.row g 62 [.pointer (some ⟨gs, 0, none⟩), .pointer (some ⟨gr, 0, none⟩), .slice z.1.1 z.1.2.2.length z.1.2.1, .slice z.2.1 z.2.2.2.length z.2.2.1, .slice Ao out.length co], SnX.O ⟨gs, As, cs, ps, s⟩, (RcX.of gr gm ms r).O, Asr.lst segE z.1.1 z.1.2.1 z.1.2.2, Asr.lst segE z.2.1 z.2.2.1 z.2.2.2, Asr.lst oxE Ao co out, Asr.star (out.map OX.O), Asr.star (bs.map SX.O)] ++ L) j) ∧ (fun z => (∀ q ∈ z.1.2.2, q ∈ to) ∧ (∀ q ∈ z.2.2.2, q ∈ back) ∧ z.1.2.2.length ≤ to.length ∧ z.2.2.2.length ≤ back.length) j) ?_ ?_
          · refine W.seq ?_
            refine W.region ?_
            refine WL.fieldR (off := 0) Try.underlying58 rfl rfl Try.sizeOf3 rfl rfl rfl ?_
            refine WL.loadR Try.isAgg3 rfl M (by first | ((repeat (first | with_reducible exact Has.here | with_reducible refine Has.there ?_)); done) | (repeat (first | exact Has.here | refine Has.there ?_))) rfl rfl ?_
            refine WL.neI rfl rfl rfl ?_
            refine WL.nil ?_
            refine WX.next ?_
            refine W.sub [(0, _), (3, _), (6, _), (7, _), (63, _)] (.cons rfl (.cons rfl (.cons rfl (.cons rfl (.cons rfl .nil))))) ?_
            refine W.ite rfl (fun c5 => ?_) (fun c5 => ?_)
            · refine W.seq ?_
              refine W.region ?_
              refine WL.fieldR (off := 2) Try.underlying58 rfl rfl Try.sizeOf4 rfl rfl rfl ?_
              refine WL.loadR Try.isAgg4 rfl M (by first | ((repeat (first | with_reducible exact Has.here | with_reducible refine Has.there ?_)); done) | (repeat (first | exact Has.here | refine Has.there ?_))) rfl rfl ?_
              refine WL.nil ?_
              refine WX.next ?_
              refine W.sub [(0, _), (3, _), (6, _), (7, _), (65, _)] (.cons rfl (.cons rfl (.cons rfl (.cons rfl (.cons rfl .nil))))) ?_
              refine W.cond rfl (fun c6 => ?_) (fun c6 => ?_)
              · (try simp only [Bool.not_eq_true'] at c6); (try simp only [Bool.not_eq_false'] at c6); (try simp only [decide_eq_true_eq] at c6); (try simp only [decide_eq_false_iff_not] at c6)
                obtain rfl : ack = true := by simpa using c6
                cases h5
                refine W.region ?_
                refine WL.move rfl rfl ?_
                refine WL.move rfl rfl ?_
                refine WL.nilCheck rfl rfl ?_
                refine WL.fieldR (off := 3) Try.underlying62 rfl rfl Try.sizeOf45 rfl rfl rfl ?_
                refine WL.loadR Try.isAgg45 rfl M (by first | ((repeat (first | with_reducible exact Has.here | with_reducible refine Has.there ?_)); done) | (repeat (first | exact Has.here | refine Has.there ?_))) rfl rfl ?_
                refine WL.move rfl rfl ?_
                refine WL.call Try.call45 rfl (cut_ok (by first | with_reducible assumption | with_reducible exact RdL.mem (by with_reducible assumption) M | exact M.rdL (by first | ((repeat (first | with_reducible exact Has.here | with_reducible refine Has.there ?_)); done) | (repeat (first | exact Has.here | refine Has.there ?_))) | exact RdLH.at (by assumption) (M.sel (by first | ((repeat (first | with_reducible exact Sel.refl | with_reducible exact Sel.nil | with_reducible exact Del.here | with_reducible apply Del.there | with_reducible apply Sel.cons | with_reducible apply Sel.drop)); done) | (repeat (first | exact Sel.refl | exact Sel.nil | exact Del.here | apply Del.there | apply Sel.cons | apply Sel.drop)))) | exact RdL.nil _ _ _) k7 (by omega)) rfl ?_
                rintro _ w ⟨A6, c6_, rfl, m⟩
                replace M := M.call1 m; clear m
                refine WL.nilCheck rfl rfl ?_
                refine WL.fieldR (off := 3) Try.underlying62 rfl rfl Try.sizeOf45 rfl rfl rfl ?_
                refine WL.storeR Try.sizeOf45 rfl rfl rfl M (by first | ((repeat (first | with_reducible exact Has.here | with_reducible refine Has.there ?_)); done) | (repeat (first | exact Has.here | refine Has.there ?_))) (by repeat (first | exact SetAt.zero | apply SetAt.succ)) (by first | ((repeat (first | with_reducible exact Upd.here | with_reducible apply Upd.there)); done) | (repeat (first | exact Upd.here | apply Upd.there))) ?_
                intro w M
                refine WL.nil ?_
                refine WX.join (((At, ct, to), (A6, c6_, back.eraseIdx k7))) (by (repeat' (first | exact envSub.nil | refine envSub.cons ?_ ?_)) <;> first | rfl | (refine congrArg some ?_; refine congrArg (Value.int _) ?_; first | omega | (dsimp only; omega)) | (simp; done) | (refine congrArg some ?_; dsimp only; congr 1; omega) | (simp; omega)) ⟨M.sel (by first | ((repeat (first | with_reducible exact Sel.refl | with_reducible exact Sel.nil | with_reducible exact Del.here | with_reducible apply Del.there | with_reducible apply Sel.cons | with_reducible apply Sel.drop)); done) | (repeat (first | exact Sel.refl | exact Sel.nil | exact Del.here | apply Del.there | apply Sel.cons | apply Sel.drop))), ⟨fun _ h => h, fun _ h => (List.eraseIdx_sublist ..).subset h, Nat.le_refl _, (List.eraseIdx_sublist ..).length_le⟩⟩
              · (try simp only [Bool.not_eq_true'] at c6); (try simp only [Bool.not_eq_false'] at c6); (try simp only [decide_eq_true_eq] at c6); (try simp only [decide_eq_false_iff_not] at c6)
                obtain rfl : ack = false := by simpa using c6
                cases h5
                refine W.region ?_
                refine WL.move rfl rfl ?_
                refine WL.move rfl rfl ?_
                refine WL.nilCheck rfl rfl ?_
                refine WL.fieldR (off := 2) Try.underlying62 rfl rfl Try.sizeOf45 rfl rfl rfl ?_
                refine WL.loadR Try.isAgg45 rfl M (by first | ((repeat (first | with_reducible exact Has.here | with_reducible refine Has.there ?_)); done) | (repeat (first | exact Has.here | refine Has.there ?_))) rfl rfl ?_
                refine WL.move rfl rfl ?_
                refine WL.call Try.call45 rfl (cut_ok (by first | with_reducible assumption | with_reducible exact RdL.mem (by with_reducible assumption) M | exact M.rdL (by first | ((repeat (first | with_reducible exact Has.here | with_reducible refine Has.there ?_)); done) | (repeat (first | exact Has.here | refine Has.there ?_))) | exact RdLH.at (by assumption) (M.sel (by first | ((repeat (first | with_reducible exact Sel.refl | with_reducible exact Sel.nil | with_reducible exact Del.here | with_reducible apply Del.there | with_reducible apply Sel.cons | with_reducible apply Sel.drop)); done) | (repeat (first | exact Sel.refl | exact Sel.nil | exact Del.here | apply Del.there | apply Sel.cons | apply Sel.drop)))) | exact RdL.nil _ _ _) k7 (by omega)) rfl ?_
                rintro _ w ⟨A6, c6_, rfl, m⟩
                replace M := M.call1 m; clear m
                refine WL.nilCheck rfl rfl ?_
                refine WL.fieldR (off := 2) Try.underlying62 rfl rfl Try.sizeOf45 rfl rfl rfl ?_
                refine WL.storeR Try.sizeOf45 rfl rfl rfl M (by first | ((repeat (first | with_reducible exact Has.here | with_reducible refine Has.there ?_)); done) | (repeat (first | exact Has.here | refine Has.there ?_))) (by repeat (first | exact SetAt.zero | apply SetAt.succ)) (by first | ((repeat (first | with_reducible exact Upd.here | with_reducible apply Upd.there)); done) | (repeat (first | exact Upd.here | apply Upd.there))) ?_
                intro w M
                refine WL.nil ?_
                refine WX.join (((A6, c6_, to.eraseIdx k7), (Ab, cb, back))) (by (repeat' (first | exact envSub.nil | refine envSub.cons ?_ ?_)) <;> first | rfl | (refine congrArg some ?_; refine congrArg (Value.int _) ?_; first | omega | (dsimp only; omega)) | (simp; done) | (refine congrArg some ?_; dsimp only; congr 1; omega) | (simp; omega)) ⟨M.sel (by first | ((repeat (first | with_reducible exact Sel.refl | with_reducible exact Sel.nil | with_reducible exact Del.here | with_reducible apply Del.there | with_reducible apply Sel.cons | with_reducible apply Sel.drop)); done) | (repeat (first | exact Sel.refl | exact Sel.nil | exact Del.here | apply Del.there | apply Sel.cons | apply Sel.drop))), ⟨fun _ h => (List.eraseIdx_sublist ..).subset h, fun _ h => h, (List.eraseIdx_sublist ..).length_le, Nat.le_refl _⟩⟩
            · refine W.skip ?_
              refine WX.join (((At, ct, to), (Ab, cb, back))) (by (repeat' (first | exact envSub.nil | refine envSub.cons ?_ ?_)) <;> first | rfl | (refine congrArg some ?_; refine congrArg (Value.int _) ?_; first | omega | (dsimp only; omega)) | (simp; done) | (refine congrArg some ?_; dsimp only; congr 1; omega) | (simp; omega)) ⟨M.sel (by first | ((repeat (first | with_reducible exact Sel.refl | with_reducible exact Sel.nil | with_reducible exact Del.here | with_reducible apply Del.there | with_reducible apply Sel.cons | with_reducible apply Sel.drop)); done) | (repeat (first | exact Sel.refl | exact Sel.nil | exact Del.here | apply Del.there | apply Sel.cons | apply Sel.drop))), ⟨fun _ h => h, fun _ h => h, Nat.le_refl _, Nat.le_refl _⟩⟩
          clear M; rintro (⟨⟨At4, ct4, to4⟩, Ab4, cb4, back4⟩) w ⟨M, ⟨hs1, hs2, hl1, hl2⟩⟩; dsimp only at M hs1 hs2 hl1 hl2 ⊢
          refine W.sub [(0, _), (3, _), (7, _)] (.cons rfl (.cons rfl (.cons rfl .nil))) ?_
          have hI4 := inv_sub hinv0 hs1 hs2
          refine W.seq ?_
          refine W.region ?_
          refine WL.fieldR (off := 0) Try.underlying58 rfl rfl Try.sizeOf3 rfl rfl rfl ?_
          refine WL.loadR Try.isAgg3 rfl M (by first | ((repeat (first | with_reducible exact Has.here | with_reducible refine Has.there ?_)); done) | (repeat (first | exact Has.here | refine Has.there ?_))) rfl rfl ?_
          refine WL.eqI rfl rfl rfl ?_
          refine WL.moveIf rfl rfl (fun c7 => ?_) (fun c7 => ?_)
          · refine WL.off rfl rfl rfl rfl ?_
            refine WL.off rfl rfl rfl rfl ?_
            refine WL.off rfl rfl rfl rfl ?_
            refine WL.off rfl rfl rfl rfl ?_
            refine WL.off rfl rfl rfl rfl ?_
            refine WL.pickT rfl rfl rfl ?_
            refine WL.assign rfl rfl ?_
            refine WL.nil ?_
            refine WX.next ?_
            refine W.sub [(4, _)] (.cons rfl .nil) ?_
            refine W.ret ?_
            refine WX.ret1 rfl rfl ?_
            exact ⟨⟨g, gs, As, cs, ps, s, gr, gm, ms, r, At4, ct4, to4, Ab4, cb4, back4, Ao, co, out⟩, bs, rfl, rfl, ⟨⟨his, hms⟩, hI4, (by dsimp only; omega), (by dsimp only; omega), (by dsimp only; omega), fun q h => hsub q (hs1 q h)⟩, M.sel (by first | ((repeat (first | with_reducible exact Sel.refl | with_reducible exact Sel.nil | with_reducible exact Del.here | with_reducible apply Del.there | with_reducible apply Sel.cons | with_reducible apply Sel.drop)); done) | (repeat (first | exact Sel.refl | exact Sel.nil | exact Del.here | apply Del.there | apply Sel.cons | apply Sel.drop)))⟩
          · refine WL.on rfl rfl ?_
            refine WL.move rfl rfl ?_
            refine WL.on rfl rfl ?_
            refine WL.loadW Try.isAgg36 Try.sizeOf36 rfl M (by first | ((repeat (first | with_reducible exact Has.here | with_reducible refine Has.there ?_)); done) | (repeat (first | exact Has.here | refine Has.there ?_))) rfl rfl ?_
            refine WL.on rfl rfl ?_
            refine WL.fieldR (off := 2) Try.underlying58 rfl rfl Try.sizeOf4 rfl rfl rfl ?_
            refine WL.on rfl rfl ?_
            refine WL.loadR Try.isAgg4 rfl M (by first | ((repeat (first | with_reducible exact Has.here | with_reducible refine Has.there ?_)); done) | (repeat (first | exact Has.here | refine Has.there ?_))) rfl rfl ?_
            refine WL.on rfl rfl ?_
            refine WL.call Try.call30 rfl (comes_ok ⟨g, gs, As, cs, ps, s, gr, gm, ms, r, At4, ct4, to4, Ab4, cb4, back4, Ao, co, out⟩ ⟨his, hms⟩ hsok hrok ack (el l5 k7) hb5.1 hb5.2 (by dsimp only; omega) (by dsimp only; omega) (by dsimp only; omega) w0 w (Asr.star (bs.map SX.O) :: L) (M.sel (by first | ((repeat (first | with_reducible exact Sel.refl | with_reducible exact Sel.nil | with_reducible exact Del.here | with_reducible apply Del.there | with_reducible apply Sel.cons | with_reducible apply Sel.drop)); done) | (repeat (first | exact Sel.refl | exact Sel.nil | exact Del.here | apply Del.there | apply Sel.cons | apply Sel.drop)))) (fun e w M => ownRd (M.starHas (f := SX.O) (by first | ((repeat (first | with_reducible exact Has.here | with_reducible refine Has.there ?_)); done) | (repeat (first | exact Has.here | refine Has.there ?_))) (hbs e)))) rfl ?_
            rintro _ w ⟨As', cs', ps', gm', ms', Ab', cb', back', Ao', co', out', rfl, his2, hb2, ho2, M⟩
            obtain ⟨he2, hI2, hn2⟩ := inv_comes hI4 hf hq5
            dsimp only at he2 hI2 hn2 hb2 ho2
            rw [← hb2, ← ho2] at hI2
            have hbl2 : back'.length ≤ i + 1 := by have := congrArg List.length hb2; cases ack <;> simp at this <;> omega
            refine WL.pickF rfl rfl rfl ?_
            refine WL.assign rfl rfl ?_
            refine WL.nil ?_
            refine WX.next ?_
            refine W.sub [(4, _)] (.cons rfl .nil) ?_
            refine W.ret ?_
            refine WX.ret1 rfl rfl ?_
            exact ⟨_, bs, (by rw [he2]; rfl), rfl, ⟨his2, hI2, (by dsimp only; rw [hn2]; omega), (by dsimp only; omega), hbl2, fun q h => hsub q (hs1 q h)⟩, M⟩

theorem push_start {W S : Nat} {l : List OX} (hf : fewL (l.map OX.l)) (i : Nat) (hi : i < l.length) : pushE ⟨5, W, S, 0, 0, (l.take i).map fun o => (o.l, 0)⟩ (el l i).l = 0 ∧ pushS ⟨5, W, S, 0, 0, (l.take i).map fun o => (o.l, 0)⟩ (el l i).l = ⟨5, W, S, 0, 0, (l.take (i + 1)).map fun o => (o.l, 0)⟩ := by
  have h1 := hf.1
  rw [List.length_map] at h1
  have h2 := hf.2 (el l i).l (List.mem_map.2 ⟨_, el_mem hi, rfl⟩)
  have e : pushE ⟨5, W, S, 0, 0, (l.take i).map fun o => (o.l, 0)⟩ (el l i).l = 0 := by
    unfold pushE
    rw [if_neg (by omega), if_neg (by simp; omega)]
  refine ⟨e, ?_⟩
  unfold pushS
  rw [if_pos e, List.take_add_one, el_get hi]
  simp
theorem invS_start {W S : Nat} {l : List OX} (hW : 1 ≤ W ∧ W ≤ 8) (hS : 1 ≤ S ∧ S ≤ 4) : InvS (l.map OX.l) ⟨5, W, S, 0, 0, l.map fun o => (o.l, 0)⟩ :=
  ⟨rfl, hW, hS, Nat.zero_le _, by simp, fun p hp => by
    obtain ⟨o, _, rfl⟩ := List.mem_map.1 hp
    exact Nat.le_refl _⟩
theorem invS_part {W S : Nat} {l : List OX} (hf : fewL (l.map OX.l)) (hW : 1 ≤ W ∧ W ≤ 8) (hS : 1 ≤ S ∧ S ≤ 4) (i : Nat) : (⟨5, W, S, 0, 0, (l.take i).map fun o => (o.l, 0)⟩ : Sn).ok :=
  (invS_start (l := l.take i) hW hS).ok ⟨by have := hf.1; simp at this ⊢; omega, fun b hb => hf.2 b (by rw [List.map_take] at hb; exact List.mem_of_mem_take hb)⟩ (by dsimp only; omega)

set_option maxRecDepth 10000 in
set_option maxHeartbeats 1000000 in
theorem start_ok (window span : Int) (A0 : Option Addr) (k0 : Nat) (l : List OX) (w0 : World) (h0 : RdL w0 oxE A0 k0 l) (hb0 : ∀ o ∈ l, RdB w0 o.A o.cap o.l) (hf : fewL (l.map OX.l)) :
    Fn Try.prog 27 [.int .i64 window, .int .i64 span, .slice A0 l.length k0] w0 fun v w' => ∃ x : LnX, v = .pointer (some ⟨x.g, 0, none⟩) ∧ x.inv (l.map OX.l) 0 [] ∧ Mem w0 w' (x.L ++ [Asr.star (([] : List SX).map SX.O)]) := by
  have M := Mem.refl w0
  have hl60 := hf.1
  rw [List.length_map] at hl60
  obtain ⟨w, hw⟩ : ∃ w, w = w0 := ⟨w0, rfl⟩
  refine Fn.enter Try.func27 rfl Try.ntmps27 rfl ?_
  refine W.sub [(0, _), (1, _), (2, _)] (.cons rfl (.cons rfl (.cons rfl .nil))) ?_
  refine W.seq ?_
  refine W.region ?_
  refine WL.assign rfl rfl ?_
  refine WL.nil ?_
  refine WX.next ?_
  refine W.sub [(0, _), (1, _), (2, _)] (.cons rfl (.cons rfl (.cons rfl .nil))) ?_
  refine W.seq ?_
  obtain ⟨k1, hk1⟩ : ∃ k : Nat, IntKind.u64.wrap window = (k : Int) := ⟨(window % 18446744073709551616).toNat, by rw [mU64]; omega⟩
  obtain ⟨k2, hk2⟩ : ∃ k : Nat, IntKind.u64.wrap span = (k : Int) := ⟨(span % 18446744073709551616).toNat, by rw [mU64]; omega⟩
  refine W.region ?_
  refine WL.move rfl rfl ?_
  refine WL.conv Try.underlying3 Try.underlying98 rfl hk1 rfl ?_
  refine WL.rem rfl rfl (by omega) (remN (by omega)) rfl ?_
  refine WL.conv Try.underlying98 Try.underlying3 rfl (by first | exact wI64 (by omega) | rfl) rfl ?_
  refine WL.add rfl rfl (by first | exact wI64 (by omega) | rfl) rfl ?_
  refine WL.move rfl rfl ?_
  refine WL.conv Try.underlying3 Try.underlying98 rfl hk2 rfl ?_
  refine WL.rem rfl rfl (by omega) (remN (by omega)) rfl ?_
  refine WL.conv Try.underlying98 Try.underlying3 rfl (by first | exact wI64 (by omega) | rfl) rfl ?_
  refine WL.add rfl rfl (by first | exact wI64 (by omega) | rfl) rfl ?_
  refine WL.call Try.call11 rfl (NewSender_ok 5 (1 + (k1 : Int) % 8) (1 + (k2 : Int) % 4) _) rfl ?_
  rintro _ w h
  rw [if_neg (by omega)] at h
  obtain ⟨gs, rfl, m⟩ := h
  replace M := M.call1 m; clear m
  obtain ⟨wn, hW, hW1⟩ : ∃ wn : Nat, (1 + (k1 : Int) % 8).toNat = wn ∧ 1 ≤ wn ∧ wn ≤ 8 := ⟨_, rfl, by omega, by omega⟩
  obtain ⟨sn, hS, hS1⟩ : ∃ sn : Nat, (1 + (k2 : Int) % 4).toNat = sn ∧ 1 ≤ sn ∧ sn ≤ 4 := ⟨_, rfl, by omega, by omega⟩
  rw [hW, hS] at M
  refine WL.move rfl rfl ?_
  refine WL.extractL rfl rfl rfl ?_
  refine WL.extractL rfl rfl rfl ?_
  refine WL.assign rfl rfl ?_
  refine WL.assign rfl rfl ?_
  refine WL.nil ?_
  refine WX.next ?_
  refine W.sub [(2, _), (7, _), (8, _)] (.cons rfl (.cons rfl (.cons rfl .nil))) ?_
  refine W.seq ?_
  refine W.region ?_
  refine WL.call Try.call32 rfl (NewReceiver_ok 8 _) rfl ?_
  rintro _ w h
  rw [if_neg (by decide)] at h
  obtain ⟨gr, gm, rfl, m⟩ := h
  replace M := M.call1 m; clear m
  rw [show (⟨gr, gm, [], (8 : Int).toNat, 0, 0⟩ : RcX) = RcX.of gr gm [] ⟨8, 0, 0, []⟩ from rfl] at M
  refine WL.move rfl rfl ?_
  refine WL.extractL rfl rfl rfl ?_
  refine WL.extractL rfl rfl rfl ?_
  refine WL.assign rfl rfl ?_
  refine WL.assign rfl rfl ?_
  refine WL.nil ?_
  refine WX.next ?_
  refine W.sub [(2, _), (7, _), (8, _), (9, _), (10, _)] (.cons rfl (.cons rfl (.cons rfl (.cons rfl (.cons rfl .nil))))) ?_
  refine W.seq ?_
  refine W.seq ?_
  refine W.region ?_
  refine WL.move rfl rfl ?_
  refine WL.neI rfl rfl rfl ?_
  refine WL.moveIf rfl rfl (fun c0 => ?_) (fun c0 => ?_)
  · exact absurd rfl c0
  · refine WL.on rfl rfl ?_
    refine WL.move rfl rfl ?_
    refine WL.on rfl rfl ?_
    refine WL.neI rfl rfl rfl ?_
    refine WL.pickF rfl rfl rfl ?_
    refine WL.moveIf rfl rfl (fun c1 => ?_) (fun c1 => ?_)
    · exact absurd rfl c1
    · refine WL.on rfl rfl ?_
      refine WL.move rfl rfl ?_
      refine WL.on rfl rfl ?_
      refine WL.eqNilF Try.underlying24 rfl rfl rfl ?_
      refine WL.pickF rfl rfl rfl ?_
      refine WL.move rfl rfl ?_
      refine WL.on rfl rfl ?_
      refine WL.move rfl rfl ?_
      refine WL.on rfl rfl ?_
      refine WL.eqNilF Try.underlying60 rfl rfl rfl ?_
      refine WL.pickF rfl rfl rfl ?_
      refine WL.nil ?_
      refine WX.next ?_
      refine W.sub [(2, _), (7, _), (9, _), (43, _)] (.cons rfl (.cons rfl (.cons rfl (.cons rfl .nil)))) ?_
      refine W.condF rfl ?_
      refine W.skip ?_
      refine WX.next ?_
      refine W.seq ?_
      refine W.seq ?_
      refine W.region ?_
      refine WL.assign rfl rfl ?_
      refine WL.nil ?_
      refine WX.next ?_
      refine W.sub [(2, _), (7, _), (9, _), (11, _)] (.cons rfl (.cons rfl (.cons rfl (.cons rfl .nil)))) ?_
      refine W.block ?_
      refine W.loop (ι := Nat × (Option Addr × Nat × List PX)) (fun z => [(2, .slice A0 l.length k0), (7, .pointer (some ⟨gs, 0, none⟩)), (9, .pointer (some ⟨gr, 0, none⟩)), (11, .int .i64 (z.1 : Int))]) (fun zz w => Mem w0 w ((fun z => [SnX.O ⟨gs, z.2.1, z.2.2.1, z.2.2.2, ⟨5, wn, sn, 0, 0, (l.take z.1).map fun o => (o.l, 0)⟩⟩, (RcX.of gr gm [] ⟨8, 0, 0, []⟩).O]) zz) ∧ (fun z => z.1 ≤ l.length ∧ SnX.is ⟨gs, z.2.1, z.2.2.1, z.2.2.2, ⟨5, wn, sn, 0, 0, (l.take z.1).map fun o => (o.l, 0)⟩⟩) zz) (fun z => l.length - z.1) ((0, (none, 0, []))) (by (repeat' (first | exact envSub.nil | refine envSub.cons ?_ ?_)) <;> first | rfl | (refine congrArg some ?_; refine congrArg (Value.int _) ?_; first | omega | (dsimp only; omega)) | (simp; done) | (refine congrArg some ?_; dsimp only; congr 1; omega) | (simp; omega)) ⟨M.sel (by first | ((repeat (first | with_reducible exact Sel.refl | with_reducible exact Sel.nil | with_reducible exact Del.here | with_reducible apply Del.there | with_reducible apply Sel.cons | with_reducible apply Sel.drop)); done) | (repeat (first | exact Sel.refl | exact Sel.nil | exact Del.here | apply Del.there | apply Sel.cons | apply Sel.drop))), ⟨by simp, rfl⟩⟩ ?_
      clear M; rintro (⟨i, B, cB, ps⟩) w ⟨M, ⟨hi, his⟩⟩; dsimp only at M hi his ⊢
      refine W.sub [(2, _), (7, _), (9, _), (11, _)] (.cons rfl (.cons rfl (.cons rfl (.cons rfl .nil)))) ?_
      refine W.seq ?_
      refine W.seq ?_
      refine W.region ?_
      refine WL.move rfl rfl ?_
      refine WL.move rfl rfl ?_
      refine WL.len Try.underlying33 rfl rfl ?_
      refine WL.lss rfl rfl rfl ?_
      refine WL.nil ?_
      refine WX.next ?_
      refine W.sub [(2, _), (7, _), (9, _), (11, _), (47, _)] (.cons rfl (.cons rfl (.cons rfl (.cons rfl (.cons rfl .nil))))) ?_
      refine W.ite rfl (fun c4 => ?_) (fun c4 => ?_)
      · have hp := push_start (W := wn) (S := sn) hf i (by omega)
        refine W.skip ?_
        refine WX.next ?_
        refine W.seq ?_
        refine W.block ?_
        refine W.seq ?_
        refine W.region ?_
        refine WL.move rfl rfl ?_
        refine WL.move rfl rfl ?_
        refine WL.move rfl rfl ?_
        refine WL.idxA Try.underlying33 Try.sizeOf34 rfl rfl (RdL.isSome (E := oxE) (by first | with_reducible assumption | with_reducible exact RdL.mem (by with_reducible assumption) M | exact M.rdL (by first | ((repeat (first | with_reducible exact Has.here | with_reducible refine Has.there ?_)); done) | (repeat (first | exact Has.here | refine Has.there ?_))) | exact RdLH.at (by assumption) (M.sel (by first | ((repeat (first | with_reducible exact Sel.refl | with_reducible exact Sel.nil | with_reducible exact Del.here | with_reducible apply Del.there | with_reducible apply Sel.cons | with_reducible apply Sel.drop)); done) | (repeat (first | exact Sel.refl | exact Sel.nil | exact Del.here | apply Del.there | apply Sel.cons | apply Sel.drop)))) | exact RdL.nil _ _ _) (by omega)) (by omega) (by omega) (by first | exact rfl | exact (Int.toNat_of_nonneg (by omega)).symm) rfl ?_
        refine WL.loadE0 (E := oxE) Try.isAgg34 rfl (by first | with_reducible assumption | with_reducible exact RdL.mem (by with_reducible assumption) M | exact M.rdL (by first | ((repeat (first | with_reducible exact Has.here | with_reducible refine Has.there ?_)); done) | (repeat (first | exact Has.here | refine Has.there ?_))) | exact RdLH.at (by assumption) (M.sel (by first | ((repeat (first | with_reducible exact Sel.refl | with_reducible exact Sel.nil | with_reducible exact Del.here | with_reducible apply Del.there | with_reducible apply Sel.cons | with_reducible apply Sel.drop)); done) | (repeat (first | exact Sel.refl | exact Sel.nil | exact Del.here | apply Del.there | apply Sel.cons | apply Sel.drop)))) | exact RdL.nil _ _ _) (by omega) rfl rfl ?_
        refine WL.call Try.call15 rfl (Push2 ⟨gs, B, cB, ps, ⟨5, wn, sn, 0, 0, (l.take i).map fun o => (o.l, 0)⟩⟩ his (invS_part hf hW1 hS1 i) _ _ (el l i).l _ _ _ _ M (by first | ((repeat (first | with_reducible exact Del.here | with_reducible apply Del.there)); done) | (repeat (first | exact Del.here | apply Del.there))) (by intro w M; exact (hb0 _ (el_mem (by omega))).mem M)) rfl ?_
        rintro _ w ⟨B2, cB2, ps2, rfl, his2, M⟩
        dsimp only at his2 M ⊢
        rw [hp.2] at his2 M
        rw [hp.1]
        refine WL.neI rfl rfl rfl ?_
        refine WL.nil ?_
        refine WX.next ?_
        refine W.sub [(2, _), (7, _), (9, _), (11, _), (56, _)] (.cons rfl (.cons rfl (.cons rfl (.cons rfl (.cons rfl .nil))))) ?_
        refine W.ite rfl (fun c5 => ?_) (fun c5 => ?_)
        · exact absurd rfl c5
        · refine W.skip ?_
          refine WX.blockNormal ?_
          refine WX.next ?_
          refine W.region ?_
          refine WL.move rfl rfl ?_
          refine WL.add rfl rfl (by first | exact wI64 (by omega) | rfl) rfl ?_
          refine WL.assign rfl rfl ?_
          refine WL.nil ?_
          refine WX.round ((i + 1, (B2, cB2, ps2))) (by (repeat' (first | exact envSub.nil | refine envSub.cons ?_ ?_)) <;> first | rfl | (refine congrArg some ?_; refine congrArg (Value.int _) ?_; first | omega | (dsimp only; omega)) | (simp; done) | (refine congrArg some ?_; dsimp only; congr 1; omega) | (simp; omega)) ⟨M.sel (by first | ((repeat (first | with_reducible exact Sel.refl | with_reducible exact Sel.nil | with_reducible exact Del.here | with_reducible apply Del.there | with_reducible apply Sel.cons | with_reducible apply Sel.drop)); done) | (repeat (first | exact Sel.refl | exact Sel.nil | exact Del.here | apply Del.there | apply Sel.cons | apply Sel.drop))), ⟨by dsimp only; omega, his2⟩⟩ (by first | omega | (dsimp only; omega))
      · obtain rfl : i = l.length := by omega
        rw [List.take_length] at his M
        refine W.exit ?_
        refine WX.thenExit ?_
        refine WX.thenExit ?_
        refine WX.blockHere ?_
        refine WX.next ?_
        refine W.seq ?_
        refine W.region ?_
        refine WL.move rfl rfl ?_
        refine WL.move rfl rfl ?_
        refine WL.buildP (places := #[(0, 1), (1, 1), (2, 1), (3, 1), (4, 1)]) Try.underlying62 Try.zeroValue62 (fun _ => by simp [Try.sizeOf24, Try.sizeOf60, Try.sizeOf45, Try.sizeOf45, Try.sizeOf33]) rfl (by repeat (first | exact Puts.nil | exact SetAt.zero | apply SetAt.succ | apply Puts.cons rfl rfl)) rfl ?_
        refine WL.box rfl M rfl ?_
        intro g10_3 w M
        try simp only [Value.cells] at M
        try simp only [List.toList_toArray] at M
        refine WL.assign rfl rfl ?_
        refine WL.nil ?_
        refine WX.next ?_
        refine W.sub [(6, _)] (.cons rfl .nil) ?_
        refine W.ret ?_
        refine WX.ret1 rfl rfl ?_
        have M2 := M.sel (K := Asr.row g10_3 62 [.pointer (some ⟨gs, 0, none⟩), .pointer (some ⟨gr, 0, none⟩), .slice none 0 0, .slice none 0 0, .slice none 0 0] :: SnX.O ⟨gs, B, cB, ps, ⟨5, wn, sn, 0, 0, l.map fun o => (o.l, 0)⟩⟩ :: [(RcX.of gr gm [] ⟨8, 0, 0, []⟩).O]) (by first | ((repeat (first | with_reducible exact Sel.refl | with_reducible exact Sel.nil | with_reducible exact Del.here | with_reducible apply Del.there | with_reducible apply Sel.cons | with_reducible apply Sel.drop)); done) | (repeat (first | exact Sel.refl | exact Sel.nil | exact Del.here | apply Del.there | apply Sel.cons | apply Sel.drop)))
        have M3 : Mem w0 w (Asr.lst segE none 0 [] :: Asr.lst segE none 0 [] :: Asr.lst oxE none 0 [] :: Asr.star (([] : List OX).map OX.O) :: Asr.star (([] : List SX).map SX.O) :: _) := Mem.nilOwn (Mem.nilOwn (Mem.nilOwn (Mem.starNil (Mem.starNil M2)) 34 1) 36 4) 36 4
        exact ⟨⟨g10_3, gs, B, cB, ps, ⟨5, wn, sn, 0, 0, l.map fun o => (o.l, 0)⟩, gr, gm, [], ⟨8, 0, 0, []⟩, none, 0, [], none, 0, [], none, 0, []⟩, rfl, ⟨⟨his, rfl⟩, ⟨invS_start hW1 hS1, ⟨rfl, .inl ⟨rfl, rfl, rfl⟩, Nat.zero_le _, List.nodup_nil, fun p hp => by cases hp⟩, Nat.le_refl _, rfl, (fun q hq => by cases hq), fun q hq => by cases hq⟩, Nat.le_refl _, Nat.le_refl _, Nat.le_refl _, fun q hq => by cases hq⟩, M3.sel (by first | ((repeat (first | with_reducible exact Sel.refl | with_reducible exact Sel.nil | with_reducible exact Del.here | with_reducible apply Del.there | with_reducible apply Sel.cons | with_reducible apply Sel.drop)); done) | (repeat (first | exact Sel.refl | exact Sel.nil | exact Del.here | apply Del.there | apply Sel.cons | apply Sel.drop)))⟩
end Go.Proofs.Ytgaegaaaoopolaa
