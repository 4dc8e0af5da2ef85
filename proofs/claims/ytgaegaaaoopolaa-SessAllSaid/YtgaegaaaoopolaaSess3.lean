/-
  Walks: the document's sender (seawallref07); rows of segments.
-/
import Derived.Test.YtgaegaaaoopolaaSess2
namespace Go.Proofs.Ytgaegaaaoopolaa
open Go Go.RowKit

/-- The document's sender as it lies: all pieces, up to which all came. -/
structure RnX where
  g : Nat
  A : Option Addr
  cap : Nat
  ps : List PX
  life : Nat
  window : Nat
  span : Nat
  acked : Nat
  now : Nat
def RnX.row (x : RnX) : List Value := [.int .u64 (x.life : Int), .int .i64 (x.window : Int), .int .i64 (x.span : Int), .int .i64 (x.acked : Int), .int .i64 (x.now : Int), .slice x.A x.ps.length x.cap]
def RnX.O (x : RnX) : Asr := Asr.star [Asr.row x.g 32 x.row, Asr.lst rpieceE x.A x.cap x.ps, Asr.star (x.ps.map PX.O)]
def RnX.p (x : RnX) : Value := .pointer (some ⟨x.g, 0, none⟩)
/-- The sender that it stands for. -/
def RnX.sn (x : RnX) : Sn := ⟨x.life, x.window, x.span, x.acked, x.now, (x.ps.map PX.key).drop x.acked⟩
theorem RnX.sn_len {x : RnX} : x.sn.l.length = x.ps.length - x.acked := by simp [RnX.sn]

set_option maxRecDepth 10000 in
theorem refPush_ok (x : RnX) (hx : x.acked ≤ x.ps.length) (hs : x.sn.ok) (A : Option Addr) (cap : Nat) (b : List UInt8) (w0 w : World) (L L' : List Asr) (M : Mem w0 w L) (hd : Del x.O L L') (hb : RdH w0 L' A cap b) :
    Fn Try.prog 16 [x.p, .slice A b.length cap] w fun v w' => ∃ x' : RnX, v = .int .i64 (pushE x.sn b) ∧ x'.g = x.g ∧ x'.sn = pushS x.sn b ∧ x'.acked ≤ x'.ps.length ∧ Mem w0 w' (x'.O :: L') := by
  have hlen := x.sn_len
  have hM := M.del hd
  replace M := (M.del hd).unstar3
  have h128 := hs.len
  have hack := hs.acked
  rw [hlen] at h128 hack
  unfold RnX.row at M
  obtain ⟨g, B, cB, ps, life, window, span, acked, now⟩ := x
  dsimp only [RnX.p, RnX.sn] at M hx hlen h128 hack hM ⊢
  refine Fn.enter Try.func16 rfl Try.ntmps16 rfl ?_
  refine W.sub [(0, _), (1, _)] (.cons rfl (.cons rfl .nil)) ?_
  refine W.seq ?_
  refine W.region ?_
  refine WL.assign rfl rfl ?_
  refine WL.nil ?_
  refine WX.next ?_
  refine W.sub [(0, _), (1, _)] (.cons rfl (.cons rfl .nil)) ?_
  refine W.seq ?_
  refine W.block ?_
  refine W.seq ?_
  refine W.region ?_
  refine WL.move rfl rfl ?_
  refine WL.len Try.underlying34 rfl rfl ?_
  refine WL.gtr rfl rfl rfl ?_
  refine WL.assign rfl rfl ?_
  refine WL.nil ?_
  refine WX.next ?_
  refine W.sub [(0, _), (1, _), (5, _)] (.cons rfl (.cons rfl (.cons rfl .nil))) ?_
  refine W.ite rfl (fun c0 => ?_) (fun c0 => ?_)
  · refine W.seq ?_
    refine W.region ?_
    refine WL.assign rfl rfl ?_
    refine WL.nil ?_
    refine WX.next ?_
    refine W.sub [(4, _)] (.cons rfl .nil) ?_
    refine W.ret ?_
    refine WX.blockRet ?_
    refine WX.thenRet ?_
    refine WX.ret1 rfl rfl ?_
    have e : pushE ⟨life, window, span, acked, now, (ps.map PX.key).drop acked⟩ b = 3 := by unfold pushE; rw [if_pos (by omega)]
    exact ⟨⟨g, B, cB, ps, life, window, span, acked, now⟩, by rw [e], rfl, by unfold pushS; rw [e, if_neg (by omega)], hx, hM⟩
  · refine W.seq ?_
    refine W.drawM (_) (by kernel_rfl) (fun j => [3, 4, 8].contains j) M Sel.refl ?_
    clear M; intro M
    apply DG.pure_ [0, 1, 2, 5, 6, 7] 6 rfl (by kernel_rfl) (by kernel_rfl)
    · intro w
      refine WL.move rfl rfl ?_
      refine WL.nilCheck rfl rfl ?_
      refine WL.fieldR (off := 5) Try.underlying32 rfl rfl Try.sizeOf30 rfl rfl rfl ?_
      refine WL.move rfl rfl ?_
      refine WL.nilCheck rfl rfl ?_
      refine WL.fieldR (off := 3) Try.underlying32 rfl rfl Try.sizeOf3 rfl rfl rfl ?_
      exact Chain.end_ rfl
    apply DG.take [3, 4, 8, 9, 10, 11] 0 rfl (by kernel_rfl) (by kernel_rfl) (M.sel (by first | ((repeat (first | with_reducible exact Sel.refl | with_reducible exact Sel.nil | with_reducible exact Del.here | with_reducible apply Del.there | with_reducible apply Sel.cons | with_reducible apply Sel.drop)); done) | (repeat (first | exact Sel.refl | exact Sel.nil | exact Del.here | apply Del.there | apply Sel.cons | apply Sel.drop))))
    · intro w M
      refine WL.loadR Try.isAgg30 rfl M (by first | ((repeat (first | with_reducible exact Has.here | with_reducible refine Has.there ?_)); done) | (repeat (first | exact Has.here | refine Has.there ?_))) rfl rfl ?_
      refine WL.len Try.underlying30 rfl rfl ?_
      refine WL.loadR Try.isAgg3 rfl M (by first | ((repeat (first | with_reducible exact Has.here | with_reducible refine Has.there ?_)); done) | (repeat (first | exact Has.here | refine Has.there ?_))) rfl rfl ?_
      refine WL.sub' rfl rfl (by first | exact wI64 (by omega) | rfl) rfl ?_
      refine WL.geq rfl rfl rfl ?_
      refine WL.assign rfl rfl ?_
      exact Chain.end_ rfl
    refine DG.end_ (by kernel_rfl) ?_
    refine WX.next ?_
    refine W.sub [(0, _), (1, _), (9, _)] (.cons rfl (.cons rfl (.cons rfl .nil))) ?_
    refine W.ite rfl (fun c1 => ?_) (fun c1 => ?_)
    · refine W.seq ?_
      refine W.region ?_
      refine WL.assign rfl rfl ?_
      refine WL.nil ?_
      refine WX.next ?_
      refine W.sub [(4, _)] (.cons rfl .nil) ?_
      refine W.ret ?_
      refine WX.blockRet ?_
      refine WX.thenRet ?_
      refine WX.ret1 rfl rfl ?_
      have e : pushE ⟨life, window, span, acked, now, (ps.map PX.key).drop acked⟩ b = 5 := by unfold pushE; rw [if_neg (by omega), if_pos (by dsimp only; omega)]
      exact ⟨⟨g, B, cB, ps, life, window, span, acked, now⟩, by rw [e], rfl, by unfold pushS; rw [e, if_neg (by omega)], hx, Mem.star3 (M.sel (by first | ((repeat (first | with_reducible exact Sel.refl | with_reducible exact Sel.nil | with_reducible exact Del.here | with_reducible apply Del.there | with_reducible apply Sel.cons | with_reducible apply Sel.drop)); done) | (repeat (first | exact Sel.refl | exact Sel.nil | exact Del.here | apply Del.there | apply Sel.cons | apply Sel.drop))))⟩
    · refine W.skip ?_
      refine WX.blockNormal ?_
      refine WX.next ?_
      refine W.seq ?_
      refine W.drawM (_) (by kernel_rfl) (fun j => [6, 7, 8].contains j) M Sel.refl ?_
      clear M; intro M
      apply DG.pure_ [0, 1, 2, 3, 5] 8 rfl (by kernel_rfl) (by kernel_rfl)
      · intro w
        refine WL.move rfl rfl ?_
        refine WL.move rfl rfl ?_
        refine WL.nilCheck rfl rfl ?_
        refine WL.fieldR (off := 5) Try.underlying32 rfl rfl Try.sizeOf30 rfl rfl rfl ?_
        refine WL.move rfl rfl ?_
        exact Chain.end_ rfl
      apply DG.take [4] 7 rfl (by kernel_rfl) (by kernel_rfl) (M.sel (by first | ((repeat (first | with_reducible exact Sel.refl | with_reducible exact Sel.nil | with_reducible exact Del.here | with_reducible apply Del.there | with_reducible apply Sel.cons | with_reducible apply Sel.drop)); done) | (repeat (first | exact Sel.refl | exact Sel.nil | exact Del.here | apply Del.there | apply Sel.cons | apply Sel.drop))))
      · intro w M
        refine WL.loadR Try.isAgg30 rfl M (by first | ((repeat (first | with_reducible exact Has.here | with_reducible refine Has.there ?_)); done) | (repeat (first | exact Has.here | refine Has.there ?_))) rfl rfl ?_
        exact Chain.end_ rfl
      refine DG.step 6 6 rfl (by kernel_rfl) ?_
      refine WL.call Try.call37 rfl (Copy_ok (by first | first | with_reducible assumption | with_reducible exact RdB.mem (by with_reducible assumption) M | exact M.rdB (by first | ((repeat (first | with_reducible exact Has.here | with_reducible refine Has.there ?_)); done) | (repeat (first | exact Has.here | refine Has.there ?_))) | exact RdH.at (by assumption) (M.sel (by first | ((repeat (first | with_reducible exact Sel.refl | with_reducible exact Sel.nil | with_reducible exact Del.here | with_reducible apply Del.there | with_reducible apply Sel.cons | with_reducible apply Sel.drop)); done) | (repeat (first | exact Sel.refl | exact Sel.nil | exact Del.here | apply Del.there | apply Sel.cons | apply Sel.drop)))) | exact M.rdLit' (by first | ((repeat (first | with_reducible exact Has.here | with_reducible refine Has.there ?_)); done) | (repeat (first | exact Has.here | refine Has.there ?_))) | exact M.rdLent (by first | ((repeat (first | with_reducible exact Has.here | with_reducible refine Has.there ?_)); done) | (repeat (first | exact Has.here | refine Has.there ?_))) | exact RdB.nil _ _ | exact RdB.sub (by first | with_reducible assumption | with_reducible exact RdB.mem (by with_reducible assumption) M | exact M.rdB (by first | ((repeat (first | with_reducible exact Has.here | with_reducible refine Has.there ?_)); done) | (repeat (first | exact Has.here | refine Has.there ?_))) | exact RdH.at (by assumption) (M.sel (by first | ((repeat (first | with_reducible exact Sel.refl | with_reducible exact Sel.nil | with_reducible exact Del.here | with_reducible apply Del.there | with_reducible apply Sel.cons | with_reducible apply Sel.drop)); done) | (repeat (first | exact Sel.refl | exact Sel.nil | exact Del.here | apply Del.there | apply Sel.cons | apply Sel.drop)))) | exact M.rdLit' (by first | ((repeat (first | with_reducible exact Has.here | with_reducible refine Has.there ?_)); done) | (repeat (first | exact Has.here | refine Has.there ?_))) | exact M.rdLent (by first | ((repeat (first | with_reducible exact Has.here | with_reducible refine Has.there ?_)); done) | (repeat (first | exact Has.here | refine Has.there ?_))) | exact RdB.nil _ _) (by omega) (by omega) | exact RdB.pre' (by first | with_reducible assumption | with_reducible exact RdB.mem (by with_reducible assumption) M | exact M.rdB (by first | ((repeat (first | with_reducible exact Has.here | with_reducible refine Has.there ?_)); done) | (repeat (first | exact Has.here | refine Has.there ?_))) | exact RdH.at (by assumption) (M.sel (by first | ((repeat (first | with_reducible exact Sel.refl | with_reducible exact Sel.nil | with_reducible exact Del.here | with_reducible apply Del.there | with_reducible apply Sel.cons | with_reducible apply Sel.drop)); done) | (repeat (first | exact Sel.refl | exact Sel.nil | exact Del.here | apply Del.there | apply Sel.cons | apply Sel.drop)))) | exact M.rdLit' (by first | ((repeat (first | with_reducible exact Has.here | with_reducible refine Has.there ?_)); done) | (repeat (first | exact Has.here | refine Has.there ?_))) | exact M.rdLent (by first | ((repeat (first | with_reducible exact Has.here | with_reducible refine Has.there ?_)); done) | (repeat (first | exact Has.here | refine Has.there ?_))) | exact RdB.nil _ _) (by omega) | exact RdB.suf (by first | with_reducible assumption | with_reducible exact RdB.mem (by with_reducible assumption) M | exact M.rdB (by first | ((repeat (first | with_reducible exact Has.here | with_reducible refine Has.there ?_)); done) | (repeat (first | exact Has.here | refine Has.there ?_))) | exact RdH.at (by assumption) (M.sel (by first | ((repeat (first | with_reducible exact Sel.refl | with_reducible exact Sel.nil | with_reducible exact Del.here | with_reducible apply Del.there | with_reducible apply Sel.cons | with_reducible apply Sel.drop)); done) | (repeat (first | exact Sel.refl | exact Sel.nil | exact Del.here | apply Del.there | apply Sel.cons | apply Sel.drop)))) | exact M.rdLit' (by first | ((repeat (first | with_reducible exact Has.here | with_reducible refine Has.there ?_)); done) | (repeat (first | exact Has.here | refine Has.there ?_))) | exact M.rdLent (by first | ((repeat (first | with_reducible exact Has.here | with_reducible refine Has.there ?_)); done) | (repeat (first | exact Has.here | refine Has.there ?_))) | exact RdB.nil _ _) (by omega)) (by omega)) rfl ?_
      rintro _ w ⟨A5_6, cap5_6, rfl, m⟩
      replace M := M.call1 m; clear m
      refine DG.go (G := fun j => [6, 7, 8].contains j) (i := 6) (f' := 6) (done := [0, 1, 2, 3, 5, 4]) (fun _ => M.sel (by first | ((repeat (first | with_reducible exact Sel.refl | with_reducible exact Sel.nil | with_reducible exact Del.here | with_reducible apply Del.there | with_reducible apply Sel.cons | with_reducible apply Sel.drop)); done) | (repeat (first | exact Sel.refl | exact Sel.nil | exact Del.here | apply Del.there | apply Sel.cons | apply Sel.drop)))) ?_
      apply DG.take [7] 5 rfl (by kernel_rfl) (by kernel_rfl) (M.sel (by first | ((repeat (first | with_reducible exact Sel.refl | with_reducible exact Sel.nil | with_reducible exact Del.here | with_reducible apply Del.there | with_reducible apply Sel.cons | with_reducible apply Sel.drop)); done) | (repeat (first | exact Sel.refl | exact Sel.nil | exact Del.here | apply Del.there | apply Sel.cons | apply Sel.drop))))
      · intro w M
        refine WL.buildP (places := #[(0, 1), (1, 1)]) Try.underlying96 Try.zeroValue96 (fun _ => by simp [Try.sizeOf34, Try.sizeOf3]) rfl (by repeat (first | exact Puts.nil | exact SetAt.zero | apply SetAt.succ | apply Puts.cons rfl rfl)) rfl ?_
        exact Chain.end_ rfl
      refine DG.step 8 4 rfl (by kernel_rfl) ?_
      refine WL.buildL (E := rpieceE) (l := [⟨⟨A5_6, cap5_6, b⟩, 0⟩]) Try.elem96 M rfl rfl rfl rfl rfl rfl ?_
      intro g5_8 w M
      refine DG.go (G := fun j => [6, 7, 8].contains j) (i := 8) (f' := 4) (done := [0, 1, 2, 3, 5, 4, 6, 7]) (fun _ => M.sel (by first | ((repeat (first | with_reducible exact Sel.refl | with_reducible exact Sel.nil | with_reducible exact Del.here | with_reducible apply Del.there | with_reducible apply Sel.cons | with_reducible apply Sel.drop)); done) | (repeat (first | exact Sel.refl | exact Sel.nil | exact Del.here | apply Del.there | apply Sel.cons | apply Sel.drop)))) ?_
      refine DG.step 9 3 rfl (by kernel_rfl) ?_
      refine WL.appendL (E := rpieceE) Try.elem96 rfl rfl M (by first | ((repeat (first | with_reducible exact Del.here | with_reducible apply Del.there)); done) | (repeat (first | exact Del.here | apply Del.there))) (by first | with_reducible assumption | with_reducible exact RdL.mem (by with_reducible assumption) M | exact M.rdL (by first | ((repeat (first | with_reducible exact Has.here | with_reducible refine Has.there ?_)); done) | (repeat (first | exact Has.here | refine Has.there ?_))) | exact RdLH.at (by assumption) (M.sel (by first | ((repeat (first | with_reducible exact Sel.refl | with_reducible exact Sel.nil | with_reducible exact Del.here | with_reducible apply Del.there | with_reducible apply Sel.cons | with_reducible apply Sel.drop)); done) | (repeat (first | exact Sel.refl | exact Sel.nil | exact Del.here | apply Del.there | apply Sel.cons | apply Sel.drop)))) | exact RdL.nil _ _ _) rfl rfl (by simp only [List.length_cons, List.length_nil]; omega) (by simp only [maxLen, List.length_cons, List.length_nil]; omega) rfl ?_
      intro A5_9 cap5_9 w M
      refine DG.go (G := fun j => [6, 7, 8].contains j) (i := 9) (f' := 3) (done := [0, 1, 2, 3, 5, 4, 6, 7, 8]) (fun h => by cases h) ?_
      apply DG.pure_ [10, 11] 1 rfl (by kernel_rfl) (by kernel_rfl)
      · intro w
        refine WL.nilCheck rfl rfl ?_
        refine WL.fieldR (off := 5) Try.underlying32 rfl rfl Try.sizeOf30 rfl rfl rfl ?_
        exact Chain.end_ rfl
      refine DG.step 12 0 rfl (by kernel_rfl) ?_
      refine WL.storeR Try.sizeOf30 rfl rfl rfl M (by first | ((repeat (first | with_reducible exact Has.here | with_reducible refine Has.there ?_)); done) | (repeat (first | exact Has.here | refine Has.there ?_))) (by repeat (first | exact SetAt.zero | apply SetAt.succ)) (by first | ((repeat (first | with_reducible exact Upd.here | with_reducible apply Upd.there)); done) | (repeat (first | exact Upd.here | apply Upd.there))) ?_
      intro w M
      refine DG.go (G := fun j => [6, 7, 8].contains j) (i := 12) (f' := 0) (done := [0, 1, 2, 3, 5, 4, 6, 7, 8, 9, 10, 11]) (fun h => by cases h) ?_
      refine DG.end_ (by kernel_rfl) ?_
      refine WX.next ?_
      refine W.sub [] .nil ?_
      refine W.seq ?_
      refine W.region ?_
      refine WL.assign rfl rfl ?_
      refine WL.nil ?_
      refine WX.next ?_
      refine W.sub [(4, _)] (.cons rfl .nil) ?_
      refine W.ret ?_
      refine WX.ret1 rfl rfl ?_
      have e : pushE ⟨life, window, span, acked, now, (ps.map PX.key).drop acked⟩ b = 0 := by unfold pushE; rw [if_neg (by omega), if_neg (by dsimp only; omega)]
      refine ⟨⟨g, A5_9, cap5_9, ps ++ [⟨⟨A5_6, cap5_6, b⟩, 0⟩], life, window, span, acked, now⟩, by rw [e], rfl, by unfold pushS; rw [e, if_pos rfl]; simp only [List.map_append]; rw [List.drop_append_of_le_length (by simpa using hx)]; rfl, by simp; omega, ?_⟩
      refine Mem.star3 ?_
      dsimp only
      rw [List.map_append]
      exact Mem.f2 (Mem.f2 (Mem.starSnoc (A := PX.O ⟨⟨A5_6, cap5_6, b⟩, 0⟩) (M.sel (K := Asr.own 5 1 A5_6 b.length cap5_6 (bs b) :: Asr.star (ps.map PX.O) :: Asr.row g 32 _ :: Asr.lst rpieceE A5_9 cap5_9 _ :: L') (by first | ((repeat (first | with_reducible exact Sel.refl | with_reducible exact Sel.nil | with_reducible exact Del.here | with_reducible apply Del.there | with_reducible apply Sel.cons | with_reducible apply Sel.drop)); done) | (repeat (first | exact Sel.refl | exact Sel.nil | exact Del.here | apply Del.there | apply Sel.cons | apply Sel.drop))))))

set_option maxRecDepth 10000 in
theorem refHearS_ok (x : RnX) (hx : x.acked ≤ x.ps.length) (hs : x.sn.ok) (q : SX) (hq : q.seq < 18446744073709551616) (w0 w : World) (L L' : List Asr) (M : Mem w0 w L) (hd : Del x.O L L') :
    Fn Try.prog 23 [x.p, q.v] w fun v w' => ∃ x' : RnX, v = .int .i64 (hearE x.sn q.key) ∧ x'.g = x.g ∧ x'.sn = hearS x.sn q.key ∧ x'.acked ≤ x'.ps.length ∧ Mem w0 w' (x'.O :: L') := by
  have hlen := x.sn_len
  have h128 := hs.len
  have hack := hs.acked
  rw [hlen] at h128 hack
  replace M := (M.del hd).unstar3
  unfold RnX.row at M
  unfold SX.v
  obtain ⟨g, B, cB, ps, life, window, span, acked, now⟩ := x
  obtain ⟨qlife, qseq, qack, ⟨QA, qcap, ql⟩⟩ := q
  dsimp only [RnX.p, RnX.sn, OX.v, SX.key] at M hx hlen h128 hack hq ⊢
  obtain ⟨l, hl⟩ : ∃ l, (ps.map PX.key).drop acked = l := ⟨_, rfl⟩
  rw [hl] at hlen ⊢
  have bad : ∀ {w' : World} {L2 : List Asr}, Mem w0 w' L2 → Sel L2 (Asr.row g 32 [.int .u64 (life : Int), .int .i64 (window : Int), .int .i64 (span : Int), .int .i64 (acked : Int), .int .i64 (now : Int), .slice B ps.length cB] :: Asr.lst rpieceE B cB ps :: Asr.star (ps.map PX.O) :: L') → ∀ e : Int, hearS ⟨life, window, span, acked, now, l⟩ (qlife, qseq, qack, ql) = ⟨life, window, span, acked, now, l⟩ → hearE ⟨life, window, span, acked, now, l⟩ (qlife, qseq, qack, ql) = e →
      ∃ x' : RnX, Value.int .i64 e = .int .i64 (hearE ⟨life, window, span, acked, now, l⟩ (qlife, qseq, qack, ql)) ∧ x'.g = g ∧ x'.sn = hearS ⟨life, window, span, acked, now, l⟩ (qlife, qseq, qack, ql) ∧ x'.acked ≤ x'.ps.length ∧ Mem w0 w' (x'.O :: L') := by
    intro w' L2 M2 hsel e he0 he
    refine ⟨⟨g, B, cB, ps, life, window, span, acked, now⟩, by rw [he], rfl, ?_, hx, Mem.star3 (M2.sel hsel)⟩
    rw [he0, ← hl]
    rfl
  have hs0 : ∀ e : Int, e ≠ 0 → hearE ⟨life, window, span, acked, now, l⟩ (qlife, qseq, qack, ql) = e → hearS ⟨life, window, span, acked, now, l⟩ (qlife, qseq, qack, ql) = ⟨life, window, span, acked, now, l⟩ := fun e h0 he => by
    unfold hearS
    rw [he, if_neg (fun h => h0 h.1)]
  refine Fn.enter Try.func23 rfl Try.ntmps23 rfl ?_
  refine W.sub [(0, _), (1, _)] (.cons rfl (.cons rfl .nil)) ?_
  refine W.seq ?_
  refine W.region ?_
  refine WL.box rfl M rfl ?_
  intro g0_0 w M
  try simp only [Value.cells] at M
  try simp only [List.toList_toArray] at M
  refine WL.assign rfl rfl ?_
  refine WL.nil ?_
  refine WX.next ?_
  refine W.sub [(0, _), (3, _)] (.cons rfl (.cons rfl .nil)) ?_
  refine W.seq ?_
  refine W.region ?_
  refine WL.loadW Try.isAgg36 Try.sizeOf36 rfl M (by first | ((repeat (first | with_reducible exact Has.here | with_reducible refine Has.there ?_)); done) | (repeat (first | exact Has.here | refine Has.there ?_))) rfl rfl ?_
  refine WL.call Try.call44 rfl (refRight_ok ⟨qlife, qseq, qack, ⟨QA, qcap, ql⟩⟩ _) rfl ?_
  rintro _ w ⟨rfl, m⟩
  replace M := M.call0 m; clear m
  dsimp only [SX.key]
  refine WL.assign rfl rfl ?_
  refine WL.nil ?_
  refine WX.next ?_
  refine W.sub [(0, _), (3, _), (5, _)] (.cons rfl (.cons rfl (.cons rfl .nil))) ?_
  refine W.seq ?_
  refine W.block ?_
  refine W.seq ?_
  refine W.region ?_
  refine WL.move rfl rfl ?_
  refine WL.not rfl rfl ?_
  refine WL.assign rfl rfl ?_
  refine WL.nil ?_
  refine WX.next ?_
  refine W.sub [(0, _), (3, _), (8, _)] (.cons rfl (.cons rfl (.cons rfl .nil))) ?_
  refine W.cond rfl (fun c0 => ?_) (fun c0 => ?_)
  · (try simp only [Bool.not_eq_true'] at c0); (try simp only [Bool.not_eq_false'] at c0); (try simp only [decide_eq_true_eq] at c0); (try simp only [decide_eq_false_iff_not] at c0)
    refine W.seq ?_
    refine W.region ?_
    refine WL.assign rfl rfl ?_
    refine WL.nil ?_
    refine WX.next ?_
    refine W.sub [(4, _)] (.cons rfl .nil) ?_
    refine W.ret ?_
    refine WX.blockRet ?_
    refine WX.thenRet ?_
    refine WX.ret1 rfl rfl ?_
    have e : hearE ⟨life, window, span, acked, now, l⟩ (qlife, qseq, qack, ql) = 2 := by unfold hearE; rw [if_pos (by simpa using c0)]
    exact bad M (by first | ((repeat (first | with_reducible exact Sel.refl | with_reducible exact Sel.nil | with_reducible exact Del.here | with_reducible apply Del.there | with_reducible apply Sel.cons | with_reducible apply Sel.drop)); done) | (repeat (first | exact Sel.refl | exact Sel.nil | exact Del.here | apply Del.there | apply Sel.cons | apply Sel.drop))) 2 (hs0 2 (by omega) e) e
  · (try simp only [Bool.not_eq_true'] at c0); (try simp only [Bool.not_eq_false'] at c0); (try simp only [decide_eq_true_eq] at c0); (try simp only [decide_eq_false_iff_not] at c0)
    skip
    have g1 : ¬ (isSeg (qlife, qseq, qack, ql) = false) := by simpa using c0
    refine W.seq ?_
    refine W.region ?_
    refine WL.fieldR (off := 2) Try.underlying36 rfl rfl Try.sizeOf4 rfl rfl rfl ?_
    refine WL.loadR Try.isAgg4 rfl M (by first | ((repeat (first | with_reducible exact Has.here | with_reducible refine Has.there ?_)); done) | (repeat (first | exact Has.here | refine Has.there ?_))) rfl rfl ?_
    refine WL.not rfl rfl ?_
    refine WL.assign rfl rfl ?_
    refine WL.nil ?_
    refine WX.next ?_
    refine W.sub [(0, _), (3, _), (11, _)] (.cons rfl (.cons rfl (.cons rfl .nil))) ?_
    refine W.cond rfl (fun c1 => ?_) (fun c1 => ?_)
    · (try simp only [Bool.not_eq_true'] at c1); (try simp only [Bool.not_eq_false'] at c1); (try simp only [decide_eq_true_eq] at c1); (try simp only [decide_eq_false_iff_not] at c1)
      refine W.seq ?_
      refine W.region ?_
      refine WL.assign rfl rfl ?_
      refine WL.nil ?_
      refine WX.next ?_
      refine W.sub [(4, _)] (.cons rfl .nil) ?_
      refine W.ret ?_
      refine WX.blockRet ?_
      refine WX.thenRet ?_
      refine WX.ret1 rfl rfl ?_
      have e : hearE ⟨life, window, span, acked, now, l⟩ (qlife, qseq, qack, ql) = 71 := by unfold hearE; rw [if_neg g1, if_pos (by simpa using c1)]
      exact bad M (by first | ((repeat (first | with_reducible exact Sel.refl | with_reducible exact Sel.nil | with_reducible exact Del.here | with_reducible apply Del.there | with_reducible apply Sel.cons | with_reducible apply Sel.drop)); done) | (repeat (first | exact Sel.refl | exact Sel.nil | exact Del.here | apply Del.there | apply Sel.cons | apply Sel.drop))) 71 (hs0 71 (by omega) e) e
    · (try simp only [Bool.not_eq_true'] at c1); (try simp only [Bool.not_eq_false'] at c1); (try simp only [decide_eq_true_eq] at c1); (try simp only [decide_eq_false_iff_not] at c1)
      have g2 : ¬ (qack = false) := by simpa using c1
      refine W.seq ?_
      refine W.drawM (_) (by kernel_rfl) (fun j => [1, 5].contains j) M Sel.refl ?_
      clear M; intro M
      apply DG.pure_ [0, 2, 3, 4] 4 rfl (by kernel_rfl) (by kernel_rfl)
      · intro w
        refine WL.fieldR (off := 0) Try.underlying36 rfl rfl Try.sizeOf22 rfl rfl rfl ?_
        refine WL.move rfl rfl ?_
        refine WL.nilCheck rfl rfl ?_
        refine WL.fieldR (off := 0) Try.underlying32 rfl rfl Try.sizeOf22 rfl rfl rfl ?_
        exact Chain.end_ rfl
      apply DG.take [1, 5, 6, 7] 0 rfl (by kernel_rfl) (by kernel_rfl) (M.sel (by first | ((repeat (first | with_reducible exact Sel.refl | with_reducible exact Sel.nil | with_reducible exact Del.here | with_reducible apply Del.there | with_reducible apply Sel.cons | with_reducible apply Sel.drop)); done) | (repeat (first | exact Sel.refl | exact Sel.nil | exact Del.here | apply Del.there | apply Sel.cons | apply Sel.drop))))
      · intro w M
        refine WL.loadR Try.isAgg22 rfl M (by first | ((repeat (first | with_reducible exact Has.here | with_reducible refine Has.there ?_)); done) | (repeat (first | exact Has.here | refine Has.there ?_))) rfl rfl ?_
        refine WL.loadR Try.isAgg22 rfl M (by first | ((repeat (first | with_reducible exact Has.here | with_reducible refine Has.there ?_)); done) | (repeat (first | exact Has.here | refine Has.there ?_))) rfl rfl ?_
        refine WL.neI rfl rfl rfl ?_
        refine WL.assign rfl rfl ?_
        exact Chain.end_ rfl
      refine DG.end_ (by kernel_rfl) ?_
      refine WX.next ?_
      refine W.sub [(0, _), (3, _), (15, _)] (.cons rfl (.cons rfl (.cons rfl .nil))) ?_
      refine W.ite rfl (fun c2 => ?_) (fun c2 => ?_)
      · refine W.seq ?_
        refine W.region ?_
        refine WL.assign rfl rfl ?_
        refine WL.nil ?_
        refine WX.next ?_
        refine W.sub [(4, _)] (.cons rfl .nil) ?_
        refine W.ret ?_
        refine WX.blockRet ?_
        refine WX.thenRet ?_
        refine WX.ret1 rfl rfl ?_
        have e : hearE ⟨life, window, span, acked, now, l⟩ (qlife, qseq, qack, ql) = 70 := by unfold hearE; rw [if_neg g1, if_neg g2, if_pos (by dsimp only; omega)]
        exact bad M (by first | ((repeat (first | with_reducible exact Sel.refl | with_reducible exact Sel.nil | with_reducible exact Del.here | with_reducible apply Del.there | with_reducible apply Sel.cons | with_reducible apply Sel.drop)); done) | (repeat (first | exact Sel.refl | exact Sel.nil | exact Del.here | apply Del.there | apply Sel.cons | apply Sel.drop))) 70 (hs0 70 (by omega) e) e
      · have g3 : ¬ (qlife ≠ life) := by omega
        refine W.seq ?_
        refine W.drawM (_) (by kernel_rfl) (fun j => [1, 5, 6, 7].contains j) M Sel.refl ?_
        clear M; intro M
        apply DG.pure_ [0, 2, 3, 4] 6 rfl (by kernel_rfl) (by kernel_rfl)
        · intro w
          refine WL.fieldR (off := 1) Try.underlying36 rfl rfl Try.sizeOf22 rfl rfl rfl ?_
          refine WL.move rfl rfl ?_
          refine WL.nilCheck rfl rfl ?_
          refine WL.fieldR (off := 5) Try.underlying32 rfl rfl Try.sizeOf30 rfl rfl rfl ?_
          exact Chain.end_ rfl
        apply DG.take [1, 5, 6, 7, 8, 9] 0 rfl (by kernel_rfl) (by kernel_rfl) (M.sel (by first | ((repeat (first | with_reducible exact Sel.refl | with_reducible exact Sel.nil | with_reducible exact Del.here | with_reducible apply Del.there | with_reducible apply Sel.cons | with_reducible apply Sel.drop)); done) | (repeat (first | exact Sel.refl | exact Sel.nil | exact Del.here | apply Del.there | apply Sel.cons | apply Sel.drop))))
        · intro w M
          refine WL.loadR Try.isAgg22 rfl M (by first | ((repeat (first | with_reducible exact Has.here | with_reducible refine Has.there ?_)); done) | (repeat (first | exact Has.here | refine Has.there ?_))) rfl rfl ?_
          refine WL.loadR Try.isAgg30 rfl M (by first | ((repeat (first | with_reducible exact Has.here | with_reducible refine Has.there ?_)); done) | (repeat (first | exact Has.here | refine Has.there ?_))) rfl rfl ?_
          refine WL.len Try.underlying30 rfl rfl ?_
          refine WL.conv Try.underlying3 Try.underlying22 rfl (wU64 (by omega)) rfl ?_
          refine WL.gtr rfl rfl rfl ?_
          refine WL.assign rfl rfl ?_
          exact Chain.end_ rfl
        refine DG.end_ (by kernel_rfl) ?_
        refine WX.next ?_
        refine W.sub [(0, _), (3, _), (23, _)] (.cons rfl (.cons rfl (.cons rfl .nil))) ?_
        refine W.ite rfl (fun c3 => ?_) (fun c3 => ?_)
        · refine W.seq ?_
          refine W.region ?_
          refine WL.assign rfl rfl ?_
          refine WL.nil ?_
          refine WX.next ?_
          refine W.sub [(4, _)] (.cons rfl .nil) ?_
          refine W.ret ?_
          refine WX.blockRet ?_
          refine WX.thenRet ?_
          refine WX.ret1 rfl rfl ?_
          have e : hearE ⟨life, window, span, acked, now, l⟩ (qlife, qseq, qack, ql) = 11 := by unfold hearE; rw [if_neg g1, if_neg g2, if_neg g3, if_pos (by dsimp only; omega)]
          exact bad M (by first | ((repeat (first | with_reducible exact Sel.refl | with_reducible exact Sel.nil | with_reducible exact Del.here | with_reducible apply Del.there | with_reducible apply Sel.cons | with_reducible apply Sel.drop)); done) | (repeat (first | exact Sel.refl | exact Sel.nil | exact Del.here | apply Del.there | apply Sel.cons | apply Sel.drop))) 11 (hs0 11 (by omega) e) e
        · have he : hearE ⟨life, window, span, acked, now, l⟩ (qlife, qseq, qack, ql) = 0 := by unfold hearE; rw [if_neg g1, if_neg g2, if_neg g3, if_neg (by dsimp only; omega)]
          refine W.skip ?_
          refine WX.blockNormal ?_
          refine WX.next ?_
          refine W.seq ?_
          refine W.seq ?_
          refine W.drawM (_) (by kernel_rfl) (fun j => [1, 2, 6].contains j) M Sel.refl ?_
          clear M; intro M
          apply DG.pure_ [0, 3, 4, 5] 4 rfl (by kernel_rfl) (by kernel_rfl)
          · intro w
            refine WL.fieldR (off := 1) Try.underlying36 rfl rfl Try.sizeOf22 rfl rfl rfl ?_
            refine WL.move rfl rfl ?_
            refine WL.nilCheck rfl rfl ?_
            refine WL.fieldR (off := 3) Try.underlying32 rfl rfl Try.sizeOf3 rfl rfl rfl ?_
            exact Chain.end_ rfl
          apply DG.take [1, 2, 6, 7] 0 rfl (by kernel_rfl) (by kernel_rfl) (M.sel (by first | ((repeat (first | with_reducible exact Sel.refl | with_reducible exact Sel.nil | with_reducible exact Del.here | with_reducible apply Del.there | with_reducible apply Sel.cons | with_reducible apply Sel.drop)); done) | (repeat (first | exact Sel.refl | exact Sel.nil | exact Del.here | apply Del.there | apply Sel.cons | apply Sel.drop))))
          · intro w M
            refine WL.loadR Try.isAgg22 rfl M (by first | ((repeat (first | with_reducible exact Has.here | with_reducible refine Has.there ?_)); done) | (repeat (first | exact Has.here | refine Has.there ?_))) rfl rfl ?_
            refine WL.conv Try.underlying22 Try.underlying3 rfl (wI64 (by omega)) rfl ?_
            refine WL.loadR Try.isAgg3 rfl M (by first | ((repeat (first | with_reducible exact Has.here | with_reducible refine Has.there ?_)); done) | (repeat (first | exact Has.here | refine Has.there ?_))) rfl rfl ?_
            refine WL.gtr rfl rfl rfl ?_
            exact Chain.end_ rfl
          refine DG.end_ (by kernel_rfl) ?_
          refine WX.next ?_
          refine W.sub [(0, _), (3, _), (40, _)] (.cons rfl (.cons rfl (.cons rfl .nil))) ?_
          refine W.ite rfl (fun c4 => ?_) (fun c4 => ?_)
          · refine W.region ?_
            refine WL.move rfl rfl ?_
            refine WL.fieldR (off := 1) Try.underlying36 rfl rfl Try.sizeOf22 rfl rfl rfl ?_
            refine WL.loadR Try.isAgg22 rfl M (by first | ((repeat (first | with_reducible exact Has.here | with_reducible refine Has.there ?_)); done) | (repeat (first | exact Has.here | refine Has.there ?_))) rfl rfl ?_
            refine WL.conv Try.underlying22 Try.underlying3 rfl (wI64 (by omega)) rfl ?_
            refine WL.nilCheck rfl rfl ?_
            refine WL.fieldR (off := 3) Try.underlying32 rfl rfl Try.sizeOf3 rfl rfl rfl ?_
            refine WL.storeR Try.sizeOf3 rfl rfl rfl M (by first | ((repeat (first | with_reducible exact Has.here | with_reducible refine Has.there ?_)); done) | (repeat (first | exact Has.here | refine Has.there ?_))) (by repeat (first | exact SetAt.zero | apply SetAt.succ)) (by first | ((repeat (first | with_reducible exact Upd.here | with_reducible apply Upd.there)); done) | (repeat (first | exact Upd.here | apply Upd.there))) ?_
            intro w M
            refine WL.nil ?_
            refine WX.next ?_
            refine W.sub [] .nil ?_
            refine W.seq ?_
            refine W.region ?_
            refine WL.assign rfl rfl ?_
            refine WL.nil ?_
            refine WX.next ?_
            refine W.sub [(4, _)] (.cons rfl .nil) ?_
            refine W.ret ?_
            refine WX.ret1 rfl rfl ?_
            refine ⟨⟨g, B, cB, ps, life, window, span, qseq, now⟩, by rw [he], rfl, ?_, by dsimp only; omega, Mem.star3 (M.sel (by first | ((repeat (first | with_reducible exact Sel.refl | with_reducible exact Sel.nil | with_reducible exact Del.here | with_reducible apply Del.there | with_reducible apply Sel.cons | with_reducible apply Sel.drop)); done) | (repeat (first | exact Sel.refl | exact Sel.nil | exact Del.here | apply Del.there | apply Sel.cons | apply Sel.drop))))⟩
            unfold hearS
            rw [he, if_pos ⟨rfl, by dsimp only; omega⟩, ← hl]
            simp only [List.drop_drop]
            rw [show acked + (qseq - acked) = qseq by omega]
          · refine W.skip ?_
            refine WX.next ?_
            refine W.seq ?_
            refine W.region ?_
            refine WL.assign rfl rfl ?_
            refine WL.nil ?_
            refine WX.next ?_
            refine W.sub [(4, _)] (.cons rfl .nil) ?_
            refine W.ret ?_
            refine WX.ret1 rfl rfl ?_
            exact bad M (by first | ((repeat (first | with_reducible exact Sel.refl | with_reducible exact Sel.nil | with_reducible exact Del.here | with_reducible apply Del.there | with_reducible apply Sel.cons | with_reducible apply Sel.drop)); done) | (repeat (first | exact Sel.refl | exact Sel.nil | exact Del.here | apply Del.there | apply Sel.cons | apply Sel.drop))) 0 (by unfold hearS; rw [if_neg (fun h => by have := h.2; dsimp only at this; omega)]) he

set_option maxRecDepth 10000 in
set_option maxHeartbeats 1000000 in
theorem refTick_ok (x : RnX) (hx : x.acked ≤ x.ps.length) (hs : x.sn.ok) (w0 w : World) (L L' : List Asr) (M : Mem w0 w L) (hd : Del x.O L L') :
    Fn Try.prog 20 [x.p] w fun v w' => ∃ (x' : RnX) (A : Option Addr) (cap : Nat) (outs : List SX), v = .slice A outs.length cap ∧ x'.g = x.g ∧ x'.sn = tickS x.sn ∧ x'.acked ≤ x'.ps.length ∧ outs.map SX.key = tickO x.sn ∧
      (∀ o ∈ outs, ∃ p ∈ x'.ps, o.x = p.x) ∧ Mem w0 w' (Asr.lst segE A cap outs :: x'.O :: L') := by
  have hlen := x.sn_len
  replace M := (M.del hd).unstar3
  obtain ⟨hlife, hwin, hspan, hack, hnow, h128, hbody, hsent⟩ := hs
  rw [hlen] at hack h128
  unfold RnX.row at M
  obtain ⟨g, B, cB, ps, life, window, span, acked, now⟩ := x
  dsimp only [RnX.p, RnX.sn] at M hx hlen h128 hlife hwin hspan hack hnow hbody hsent ⊢
  obtain ⟨l, hl⟩ : ∃ l, (ps.map PX.key).drop acked = l := ⟨_, rfl⟩
  rw [hl] at hlen hbody hsent ⊢
  have hkey : ∀ j, j < ps.length - acked → el l j = ((el ps (acked + j)).x.l, (el ps (acked + j)).sent) := fun j hj => by
    rw [← hl, el, List.getElem?_drop, List.getElem?_map, el_get (show acked + j < ps.length by omega)]
    rfl
  have hmem : ∀ j, j < ps.length - acked → el l j ∈ l := fun j hj => el_mem (by omega)
  have hnn : acked + min (ps.length - acked) window ≤ ps.length := by omega
  refine Fn.enter Try.func20 rfl Try.ntmps20 rfl ?_
  refine W.sub [(0, _)] (.cons rfl .nil) ?_
  refine W.seq ?_
  refine W.region ?_
  refine WL.assign rfl rfl ?_
  refine WL.nil ?_
  refine WX.next ?_
  refine W.sub [(0, _)] (.cons rfl .nil) ?_
  refine W.seq ?_
  refine W.region ?_
  refine WL.move rfl rfl ?_
  refine WL.nilCheck rfl rfl ?_
  refine WL.fieldR (off := 4) Try.underlying32 rfl rfl Try.sizeOf3 rfl rfl rfl ?_
  refine WL.loadR Try.isAgg3 rfl M (by first | ((repeat (first | with_reducible exact Has.here | with_reducible refine Has.there ?_)); done) | (repeat (first | exact Has.here | refine Has.there ?_))) rfl rfl ?_
  refine WL.add rfl rfl (show IntKind.i64.wrap ((now : Int) + 1) = ((now + 1 : Nat) : Int) by rw [wI64 (by omega)]; omega) rfl ?_
  refine WL.nilCheck rfl rfl ?_
  refine WL.fieldR (off := 4) Try.underlying32 rfl rfl Try.sizeOf3 rfl rfl rfl ?_
  refine WL.storeR Try.sizeOf3 rfl rfl rfl M (by first | ((repeat (first | with_reducible exact Has.here | with_reducible refine Has.there ?_)); done) | (repeat (first | exact Has.here | refine Has.there ?_))) (by repeat (first | exact SetAt.zero | apply SetAt.succ)) (by first | ((repeat (first | with_reducible exact Upd.here | with_reducible apply Upd.there)); done) | (repeat (first | exact Upd.here | apply Upd.there))) ?_
  intro w M
  refine WL.nil ?_
  refine WX.next ?_
  refine W.sub [(0, _)] (.cons rfl .nil) ?_
  refine W.seq ?_
  refine W.region ?_
  refine WL.assign rfl rfl ?_
  refine WL.nil ?_
  refine WX.next ?_
  refine W.sub [(0, _), (3, _)] (.cons rfl (.cons rfl .nil)) ?_
  refine W.seq ?_
  refine W.seq ?_
  refine W.region ?_
  refine WL.move rfl rfl ?_
  refine WL.nilCheck rfl rfl ?_
  refine WL.fieldR (off := 3) Try.underlying32 rfl rfl Try.sizeOf3 rfl rfl rfl ?_
  refine WL.loadR Try.isAgg3 rfl M (by first | ((repeat (first | with_reducible exact Has.here | with_reducible refine Has.there ?_)); done) | (repeat (first | exact Has.here | refine Has.there ?_))) rfl rfl ?_
  refine WL.assign rfl rfl ?_
  refine WL.nil ?_
  refine WX.next ?_
  refine W.sub [(0, _), (3, _), (4, _)] (.cons rfl (.cons rfl (.cons rfl .nil))) ?_
  refine W.block ?_
  refine W.loop (ι := (Nat × List PX × List SX) × (Option Addr × Nat)) (fun s => [(0, .pointer (some ⟨g, 0, none⟩)), (3, .slice s.2.1 s.1.2.2.length s.2.2), (4, .int .i64 ((acked + s.1.1 : Nat) : Int))]) (fun i w => Mem w0 w ((fun s => Asr.row g 32 [.int .u64 (life : Int), .int .i64 (window : Int), .int .i64 (span : Int), .int .i64 (acked : Int), .int .i64 ((now + 1 : Nat) : Int), .slice B ps.length cB] :: Asr.lst rpieceE B cB s.1.2.1 :: Asr.star (ps.map PX.O) :: Asr.lst segE s.2.1 s.2.2 s.1.2.2 :: L') i) ∧ (fun s => s.1.1 ≤ min (ps.length - acked) window ∧ s.1.2.1.length = ps.length ∧ (∀ j, j < ps.length → (el s.1.2.1 j).x = (el ps j).x ∧ (el s.1.2.1 j).sent = if acked ≤ j ∧ j < acked + s.1.1 ∧ due span (now + 1) (el l (j - acked)) then now + 1 else (el ps j).sent) ∧ s.1.2.2.map SX.key = outTo life acked span (now + 1) l s.1.1 ∧ (∀ o ∈ s.1.2.2, ∃ j, j < ps.length ∧ o.x = (el ps j).x)) i) (fun s => min (ps.length - acked) window - s.1.1) (((0, ps, []), (none, 0))) (by (repeat' (first | exact envSub.nil | refine envSub.cons ?_ ?_)) <;> first | rfl | (refine congrArg some ?_; refine congrArg (Value.int _) ?_; first | omega | (dsimp only; omega)) | (simp; done) | (refine congrArg some ?_; dsimp only; congr 1; omega) | (simp; omega)) ⟨(Mem.nilOwn M _ _).sel (by first | ((repeat (first | with_reducible exact Sel.refl | with_reducible exact Sel.nil | with_reducible exact Del.here | with_reducible apply Del.there | with_reducible apply Sel.cons | with_reducible apply Sel.drop)); done) | (repeat (first | exact Sel.refl | exact Sel.nil | exact Del.here | apply Del.there | apply Sel.cons | apply Sel.drop))), ⟨by simp, rfl, (fun j hj => ⟨rfl, by dsimp only; rw [if_neg (by omega)]⟩), rfl, (fun o ho => by cases ho)⟩⟩ ?_
  clear M; rintro (⟨⟨i, qs, outs⟩, Ao, co⟩) w ⟨M, ⟨hi, hq, hqs, ho, hoo⟩⟩; dsimp only at M hi hq hqs ho hoo ⊢
  refine W.sub [(0, _), (3, _), (4, _)] (.cons rfl (.cons rfl (.cons rfl .nil))) ?_
  refine W.joint (fun (_ : Unit) => [(0, .pointer (some ⟨g, 0, none⟩)), (3, .slice Ao outs.length co), (4, .int .i64 ((acked + i : Nat) : Int))]) (fun j w => Mem w0 w ((fun _ => Asr.row g 32 [.int .u64 (life : Int), .int .i64 (window : Int), .int .i64 (span : Int), .int .i64 (acked : Int), .int .i64 ((now + 1 : Nat) : Int), .slice B ps.length cB] :: Asr.lst rpieceE B cB qs :: Asr.star (ps.map PX.O) :: Asr.lst segE Ao co outs :: L') j) ∧ (fun _ => i < min (ps.length - acked) window) j) ?_ ?_
  · refine W.seq ?_
    refine W.drawM (_) (by kernel_rfl) (fun j => [8, 9, 10, 11, 12, 13, 14, 15, 16].contains j) M Sel.refl ?_
    clear M; intro M
    apply DG.pure_ [0, 1, 2, 3] 16 rfl (by kernel_rfl) (by kernel_rfl)
    · intro w
      refine WL.move rfl rfl ?_
      refine WL.move rfl rfl ?_
      refine WL.nilCheck rfl rfl ?_
      refine WL.fieldR (off := 5) Try.underlying32 rfl rfl Try.sizeOf30 rfl rfl rfl ?_
      exact Chain.end_ rfl
    apply DG.take [4, 5, 6] 13 rfl (by kernel_rfl) (by kernel_rfl) (M.sel (by first | ((repeat (first | with_reducible exact Sel.refl | with_reducible exact Sel.nil | with_reducible exact Del.here | with_reducible apply Del.there | with_reducible apply Sel.cons | with_reducible apply Sel.drop)); done) | (repeat (first | exact Sel.refl | exact Sel.nil | exact Del.here | apply Del.there | apply Sel.cons | apply Sel.drop))))
    · intro w M
      refine WL.loadR Try.isAgg30 rfl M (by first | ((repeat (first | with_reducible exact Has.here | with_reducible refine Has.there ?_)); done) | (repeat (first | exact Has.here | refine Has.there ?_))) rfl rfl ?_
      refine WL.len Try.underlying30 rfl rfl ?_
      refine WL.lss rfl rfl rfl ?_
      exact Chain.end_ rfl
    refine DG.knowP (t := 22) rfl (fun c0 => ?_) (fun c0 => ?_)
    · apply DG.pure_ [7] 12 rfl (by kernel_rfl) (by kernel_rfl)
      · intro w
        refine WL.move rfl rfl ?_
        exact Chain.end_ rfl
      apply DG.take [9, 10, 11, 12, 13, 14, 15, 16, 17] 3 rfl (by kernel_rfl) (by kernel_rfl) (M.sel (by first | ((repeat (first | with_reducible exact Sel.refl | with_reducible exact Sel.nil | with_reducible exact Del.here | with_reducible apply Del.there | with_reducible apply Sel.cons | with_reducible apply Sel.drop)); done) | (repeat (first | exact Sel.refl | exact Sel.nil | exact Del.here | apply Del.there | apply Sel.cons | apply Sel.drop))))
      · intro w M
        refine WL.on rfl rfl ?_
        refine WL.move rfl rfl ?_
        refine WL.on rfl rfl ?_
        refine WL.nilCheck rfl rfl ?_
        refine WL.on rfl rfl ?_
        refine WL.fieldR (off := 3) Try.underlying32 rfl rfl Try.sizeOf3 rfl rfl rfl ?_
        refine WL.on rfl rfl ?_
        refine WL.loadR Try.isAgg3 rfl M (by first | ((repeat (first | with_reducible exact Has.here | with_reducible refine Has.there ?_)); done) | (repeat (first | exact Has.here | refine Has.there ?_))) rfl rfl ?_
        refine WL.on rfl rfl ?_
        refine WL.move rfl rfl ?_
        refine WL.on rfl rfl ?_
        refine WL.nilCheck rfl rfl ?_
        refine WL.on rfl rfl ?_
        refine WL.fieldR (off := 1) Try.underlying32 rfl rfl Try.sizeOf3 rfl rfl rfl ?_
        refine WL.on rfl rfl ?_
        refine WL.loadR Try.isAgg3 rfl M (by first | ((repeat (first | with_reducible exact Has.here | with_reducible refine Has.there ?_)); done) | (repeat (first | exact Has.here | refine Has.there ?_))) rfl rfl ?_
        refine WL.on rfl rfl ?_
        refine WL.add rfl rfl (by first | exact wI64 (by omega) | rfl) rfl ?_
        exact Chain.end_ rfl
      apply DG.take [8, 18, 19] 0 rfl (by kernel_rfl) (by kernel_rfl) (M.sel (by first | ((repeat (first | with_reducible exact Sel.refl | with_reducible exact Sel.nil | with_reducible exact Del.here | with_reducible apply Del.there | with_reducible apply Sel.cons | with_reducible apply Sel.drop)); done) | (repeat (first | exact Sel.refl | exact Sel.nil | exact Del.here | apply Del.there | apply Sel.cons | apply Sel.drop))))
      · intro w M
        refine WL.on rfl rfl ?_
        refine WL.move rfl rfl ?_
        refine WL.on rfl rfl ?_
        refine WL.lss rfl rfl rfl ?_
        refine WL.pickT rfl rfl rfl ?_
        exact Chain.end_ rfl
      refine DG.end_ (by kernel_rfl) ?_
      refine WX.next ?_
      refine W.sub [(0, _), (3, _), (4, _), (35, _)] (.cons rfl (.cons rfl (.cons rfl (.cons rfl .nil)))) ?_
      refine W.ite rfl (fun c1 => ?_) (fun c1 => ?_)
      · refine W.skip ?_
        refine WX.join (()) (by (repeat' (first | exact envSub.nil | refine envSub.cons ?_ ?_)) <;> first | rfl | (refine congrArg some ?_; refine congrArg (Value.int _) ?_; first | omega | (dsimp only; omega)) | (simp; done) | (refine congrArg some ?_; dsimp only; congr 1; omega) | (simp; omega)) ⟨M.sel (by first | ((repeat (first | with_reducible exact Sel.refl | with_reducible exact Sel.nil | with_reducible exact Del.here | with_reducible apply Del.there | with_reducible apply Sel.cons | with_reducible apply Sel.drop)); done) | (repeat (first | exact Sel.refl | exact Sel.nil | exact Del.here | apply Del.there | apply Sel.cons | apply Sel.drop))), by omega⟩
      · refine W.exit ?_
        refine WX.thenExit ?_
        refine WX.thenExit ?_
        refine WX.blockHere ?_
        refine WX.next ?_
        refine W.seq ?_
        refine W.region ?_
        refine WL.move rfl rfl ?_
        refine WL.assign rfl rfl ?_
        refine WL.nil ?_
        refine WX.next ?_
        refine W.sub [(2, _)] (.cons rfl .nil) ?_
        refine W.ret ?_
        refine WX.ret1 rfl rfl ?_
        have hik : i = min (ps.length - acked) window := by omega
        have hst : (⟨g, B, cB, qs, life, window, span, acked, now + 1⟩ : RnX).sn = tickS ⟨life, window, span, acked, now, l⟩ := by
          unfold RnX.sn tickS Sn.k
          simp only [Sn.mk.injEq, true_and]
          refine ext_el (by simp [sentTo_length, hq, hlen]) fun j hj => ?_
          replace hj : j < qs.length - acked := by simpa using hj
          rw [hq] at hj
          rw [hlen, ← hik]
          obtain ⟨h1, h2⟩ := hqs (acked + j) (by omega)
          have e : el (sentTo span (now + 1) i l) j = if j < i ∧ due span (now + 1) (el l j) then ((el l j).1, now + 1) else el l j := by
            unfold sentTo
            rw [el, List.getElem?_map, List.getElem?_range (by omega)]
            rfl
          rw [e, el, List.getElem?_drop, List.getElem?_map, el_get (show acked + j < qs.length by omega)]
          simp only [Option.map_some, Option.getD_some, PX.key, h1, h2, Nat.add_sub_cancel_left, hkey j (by omega)]
          by_cases hc : j < i ∧ due span (now + 1) ((el ps (acked + j)).x.l, (el ps (acked + j)).sent) = true
          · rw [if_pos hc, if_pos ⟨by omega, by omega, hc.2⟩]
          · rw [if_neg hc, if_neg (fun h => hc ⟨by omega, h.2.2⟩)]
        have hstar : qs.map PX.O = ps.map PX.O := by
          apply List.ext_getElem?
          intro j
          rw [List.getElem?_map, List.getElem?_map]
          by_cases hj : j < ps.length
          · rw [el_get (show j < qs.length by omega), el_get hj]
            simp only [Option.map_some, PX.O, (hqs j hj).1]
          · rw [List.getElem?_eq_none (by omega), List.getElem?_eq_none (by omega)]
        refine ⟨⟨g, B, cB, qs, life, window, span, acked, now + 1⟩, Ao, co, outs, rfl, rfl, hst, by show acked ≤ qs.length; omega, by rw [ho, hik, ← hlen]; rfl, ?_, ?_⟩
        · intro o h
          obtain ⟨j, hj, e⟩ := hoo o h
          exact ⟨el qs j, el_mem (l := qs) (by omega), by rw [e, (hqs j hj).1]⟩
        · have M2 := Mem.star3 (M.sel (K := Asr.row g 32 [.int .u64 (life : Int), .int .i64 (window : Int), .int .i64 (span : Int), .int .i64 (acked : Int), .int .i64 ((now + 1 : Nat) : Int), .slice B ps.length cB] :: Asr.lst rpieceE B cB qs :: Asr.star (ps.map PX.O) :: Asr.lst segE Ao co outs :: L') (by first | ((repeat (first | with_reducible exact Sel.refl | with_reducible exact Sel.nil | with_reducible exact Del.here | with_reducible apply Del.there | with_reducible apply Sel.cons | with_reducible apply Sel.drop)); done) | (repeat (first | exact Sel.refl | exact Sel.nil | exact Del.here | apply Del.there | apply Sel.cons | apply Sel.drop))))
          rw [← hstar, ← hq] at M2
          exact Mem.f1 M2
    · apply DG.pure_ [7] 12 rfl (by kernel_rfl) (by kernel_rfl)
      · intro w
        refine WL.move rfl rfl ?_
        exact Chain.end_ rfl
      apply DG.take [9, 10, 11, 12, 13, 14, 15, 16, 17] 3 rfl (by kernel_rfl) (by kernel_rfl) (M.sel (by first | ((repeat (first | with_reducible exact Sel.refl | with_reducible exact Sel.nil | with_reducible exact Del.here | with_reducible apply Del.there | with_reducible apply Sel.cons | with_reducible apply Sel.drop)); done) | (repeat (first | exact Sel.refl | exact Sel.nil | exact Del.here | apply Del.there | apply Sel.cons | apply Sel.drop))))
      · intro w M
        refine WL.off rfl rfl rfl rfl ?_
        refine WL.off rfl rfl rfl rfl ?_
        refine WL.off rfl rfl rfl rfl ?_
        refine WL.off rfl rfl rfl rfl ?_
        refine WL.off rfl rfl rfl rfl ?_
        refine WL.off rfl rfl rfl rfl ?_
        refine WL.off rfl rfl rfl rfl ?_
        refine WL.off rfl rfl rfl rfl ?_
        refine WL.off rfl rfl rfl rfl ?_
        exact Chain.end_ rfl
      apply DG.take [8, 18, 19] 0 rfl (by kernel_rfl) (by kernel_rfl) (M.sel (by first | ((repeat (first | with_reducible exact Sel.refl | with_reducible exact Sel.nil | with_reducible exact Del.here | with_reducible apply Del.there | with_reducible apply Sel.cons | with_reducible apply Sel.drop)); done) | (repeat (first | exact Sel.refl | exact Sel.nil | exact Del.here | apply Del.there | apply Sel.cons | apply Sel.drop))))
      · intro w M
        refine WL.off rfl rfl rfl rfl ?_
        refine WL.off rfl rfl rfl rfl ?_
        refine WL.pickF rfl rfl rfl ?_
        exact Chain.end_ rfl
      refine DG.end_ (by kernel_rfl) ?_
      refine WX.next ?_
      refine W.sub [(0, _), (3, _), (4, _), (35, _)] (.cons rfl (.cons rfl (.cons rfl (.cons rfl .nil)))) ?_
      refine W.condF rfl ?_
      refine W.exit ?_
      refine WX.thenExit ?_
      refine WX.thenExit ?_
      refine WX.blockHere ?_
      refine WX.next ?_
      refine W.seq ?_
      refine W.region ?_
      refine WL.move rfl rfl ?_
      refine WL.assign rfl rfl ?_
      refine WL.nil ?_
      refine WX.next ?_
      refine W.sub [(2, _)] (.cons rfl .nil) ?_
      refine W.ret ?_
      refine WX.ret1 rfl rfl ?_
      have hik : i = min (ps.length - acked) window := by omega
      have hst : (⟨g, B, cB, qs, life, window, span, acked, now + 1⟩ : RnX).sn = tickS ⟨life, window, span, acked, now, l⟩ := by
        unfold RnX.sn tickS Sn.k
        simp only [Sn.mk.injEq, true_and]
        refine ext_el (by simp [sentTo_length, hq, hlen]) fun j hj => ?_
        replace hj : j < qs.length - acked := by simpa using hj
        rw [hq] at hj
        rw [hlen, ← hik]
        obtain ⟨h1, h2⟩ := hqs (acked + j) (by omega)
        have e : el (sentTo span (now + 1) i l) j = if j < i ∧ due span (now + 1) (el l j) then ((el l j).1, now + 1) else el l j := by
          unfold sentTo
          rw [el, List.getElem?_map, List.getElem?_range (by omega)]
          rfl
        rw [e, el, List.getElem?_drop, List.getElem?_map, el_get (show acked + j < qs.length by omega)]
        simp only [Option.map_some, Option.getD_some, PX.key, h1, h2, Nat.add_sub_cancel_left, hkey j (by omega)]
        by_cases hc : j < i ∧ due span (now + 1) ((el ps (acked + j)).x.l, (el ps (acked + j)).sent) = true
        · rw [if_pos hc, if_pos ⟨by omega, by omega, hc.2⟩]
        · rw [if_neg hc, if_neg (fun h => hc ⟨by omega, h.2.2⟩)]
      have hstar : qs.map PX.O = ps.map PX.O := by
        apply List.ext_getElem?
        intro j
        rw [List.getElem?_map, List.getElem?_map]
        by_cases hj : j < ps.length
        · rw [el_get (show j < qs.length by omega), el_get hj]
          simp only [Option.map_some, PX.O, (hqs j hj).1]
        · rw [List.getElem?_eq_none (by omega), List.getElem?_eq_none (by omega)]
      refine ⟨⟨g, B, cB, qs, life, window, span, acked, now + 1⟩, Ao, co, outs, rfl, rfl, hst, by show acked ≤ qs.length; omega, by rw [ho, hik, ← hlen]; rfl, ?_, ?_⟩
      · intro o h
        obtain ⟨j, hj, e⟩ := hoo o h
        exact ⟨el qs j, el_mem (l := qs) (by omega), by rw [e, (hqs j hj).1]⟩
      · have M2 := Mem.star3 (M.sel (K := Asr.row g 32 [.int .u64 (life : Int), .int .i64 (window : Int), .int .i64 (span : Int), .int .i64 (acked : Int), .int .i64 ((now + 1 : Nat) : Int), .slice B ps.length cB] :: Asr.lst rpieceE B cB qs :: Asr.star (ps.map PX.O) :: Asr.lst segE Ao co outs :: L') (by first | ((repeat (first | with_reducible exact Sel.refl | with_reducible exact Sel.nil | with_reducible exact Del.here | with_reducible apply Del.there | with_reducible apply Sel.cons | with_reducible apply Sel.drop)); done) | (repeat (first | exact Sel.refl | exact Sel.nil | exact Del.here | apply Del.there | apply Sel.cons | apply Sel.drop))))
        rw [← hstar, ← hq] at M2
        exact Mem.f1 M2
  clear M; rintro (_) w ⟨M, hlt⟩; dsimp only at M hlt ⊢
  refine W.sub [(0, _), (3, _), (4, _)] (.cons rfl (.cons rfl (.cons rfl .nil))) ?_
  have hin : acked + i < ps.length := by omega
  obtain ⟨hqx, hqt⟩ := hqs (acked + i) hin
  rw [if_neg (fun h => by omega)] at hqt
  have hst := hsent _ (hmem i (by omega))
  have hbd := hbody _ (hmem i (by omega))
  rw [hkey i (by omega)] at hst hbd
  dsimp only at hst hbd
  have hdue : due span (now + 1) (el l i) = !(decide (0 < (el qs (acked + i)).sent) && decide (((now + 1 : Nat) : Int) - ((el qs (acked + i)).sent : Int) < (span : Int))) := by rw [hkey i (by omega), hqt]; rfl
  have hqe : due span (now + 1) (el l i) = decide ((el qs (acked + i)).sent = 0 ∨ (span : Int) ≤ ((now + 1 : Nat) : Int) - ((el qs (acked + i)).sent : Int)) := by rw [hdue, ← Bool.decide_and, ← decide_not, decide_eq_decide]; omega
  refine W.joint (fun (r : (List PX × List SX) × (Option Addr × Nat)) => [(0, .pointer (some ⟨g, 0, none⟩)), (3, .slice r.2.1 r.1.2.length r.2.2), (4, .int .i64 ((acked + i : Nat) : Int))]) (fun j w => Mem w0 w ((fun r => Asr.row g 32 [.int .u64 (life : Int), .int .i64 (window : Int), .int .i64 (span : Int), .int .i64 (acked : Int), .int .i64 ((now + 1 : Nat) : Int), .slice B ps.length cB] :: Asr.lst rpieceE B cB r.1.1 :: Asr.star (ps.map PX.O) :: Asr.lst segE r.2.1 r.2.2 r.1.2 :: L') j) ∧ (fun r => r.1.1.length = ps.length ∧ (∀ j, j < ps.length → (el r.1.1 j).x = (el ps j).x ∧ (el r.1.1 j).sent = if acked ≤ j ∧ j < acked + (i + 1) ∧ due span (now + 1) (el l (j - acked)) then now + 1 else (el ps j).sent) ∧ r.1.2.map SX.key = outTo life acked span (now + 1) l (i + 1) ∧ (∀ o ∈ r.1.2, ∃ j, j < ps.length ∧ o.x = (el ps j).x)) j) ?_ ?_
  · refine W.block ?_
    refine W.joint (fun (_ : Unit) => [(0, .pointer (some ⟨g, 0, none⟩)), (3, .slice Ao outs.length co), (4, .int .i64 ((acked + i : Nat) : Int)), (66, .bool (due span (now + 1) (el l i)))]) (fun j w => Mem w0 w ((fun _ => Asr.row g 32 [.int .u64 (life : Int), .int .i64 (window : Int), .int .i64 (span : Int), .int .i64 (acked : Int), .int .i64 ((now + 1 : Nat) : Int), .slice B ps.length cB] :: Asr.lst rpieceE B cB qs :: Asr.star (ps.map PX.O) :: Asr.lst segE Ao co outs :: L') j) ∧ (fun _ => True) j) ?_ ?_
    · refine W.drawM (_) (by kernel_rfl) (fun j => [10, 11, 12, 13, 14, 15, 16, 17, 18, 19, 20, 21, 22, 23, 24, 25, 26].contains j) M Sel.refl ?_
      clear M; intro M
      apply DG.pure_ [0, 1, 2, 4] 25 rfl (by kernel_rfl) (by kernel_rfl)
      · intro w
        refine WL.move rfl rfl ?_
        refine WL.nilCheck rfl rfl ?_
        refine WL.fieldR (off := 5) Try.underlying32 rfl rfl Try.sizeOf30 rfl rfl rfl ?_
        refine WL.move rfl rfl ?_
        exact Chain.end_ rfl
      apply DG.take [3, 5, 6, 7, 8] 20 rfl (by kernel_rfl) (by kernel_rfl) (M.sel (by first | ((repeat (first | with_reducible exact Sel.refl | with_reducible exact Sel.nil | with_reducible exact Del.here | with_reducible apply Del.there | with_reducible apply Sel.cons | with_reducible apply Sel.drop)); done) | (repeat (first | exact Sel.refl | exact Sel.nil | exact Del.here | apply Del.there | apply Sel.cons | apply Sel.drop))))
      · intro w M
        refine WL.loadR Try.isAgg30 rfl M (by first | ((repeat (first | with_reducible exact Has.here | with_reducible refine Has.there ?_)); done) | (repeat (first | exact Has.here | refine Has.there ?_))) rfl rfl ?_
        refine WL.idxA Try.underlying30 Try.sizeOf96 rfl rfl (RdL.isSome (E := rpieceE) (by first | with_reducible assumption | with_reducible exact RdL.mem (by with_reducible assumption) M | exact M.rdL (by first | ((repeat (first | with_reducible exact Has.here | with_reducible refine Has.there ?_)); done) | (repeat (first | exact Has.here | refine Has.there ?_))) | exact RdLH.at (by assumption) (M.sel (by first | ((repeat (first | with_reducible exact Sel.refl | with_reducible exact Sel.nil | with_reducible exact Del.here | with_reducible apply Del.there | with_reducible apply Sel.cons | with_reducible apply Sel.drop)); done) | (repeat (first | exact Sel.refl | exact Sel.nil | exact Del.here | apply Del.there | apply Sel.cons | apply Sel.drop)))) | exact RdL.nil _ _ _) (by omega)) (by omega) (by omega) (by first | exact rfl | exact (Int.toNat_of_nonneg (by omega)).symm) rfl ?_
        refine WL.fieldA (off := 1) Try.underlying96 rfl rfl Try.sizeOf3 rfl rfl rfl ?_
        refine WL.loadE (E := rpieceE) Try.isAgg3 rfl (by first | with_reducible assumption | with_reducible exact RdL.mem (by with_reducible assumption) M | exact M.rdL (by first | ((repeat (first | with_reducible exact Has.here | with_reducible refine Has.there ?_)); done) | (repeat (first | exact Has.here | refine Has.there ?_))) | exact RdLH.at (by assumption) (M.sel (by first | ((repeat (first | with_reducible exact Sel.refl | with_reducible exact Sel.nil | with_reducible exact Del.here | with_reducible apply Del.there | with_reducible apply Sel.cons | with_reducible apply Sel.drop)); done) | (repeat (first | exact Sel.refl | exact Sel.nil | exact Del.here | apply Del.there | apply Sel.cons | apply Sel.drop)))) | exact RdL.nil _ _ _) (by omega) rfl rfl ?_
        refine WL.eqI rfl rfl rfl ?_
        exact Chain.end_ rfl
      refine DG.knowP (t := 46) rfl (fun c2 => ?_) (fun c2 => ?_)
      · apply DG.pure_ [9] 19 rfl (by kernel_rfl) (by kernel_rfl)
        · intro w
          refine WL.move rfl rfl ?_
          exact Chain.end_ rfl
        apply DG.take [10, 11, 12, 13, 14, 15, 16, 17, 18, 19, 20, 21, 22, 23, 24, 25, 26, 27, 28] 0 rfl (by kernel_rfl) (by kernel_rfl) (M.sel (by first | ((repeat (first | with_reducible exact Sel.refl | with_reducible exact Sel.nil | with_reducible exact Del.here | with_reducible apply Del.there | with_reducible apply Sel.cons | with_reducible apply Sel.drop)); done) | (repeat (first | exact Sel.refl | exact Sel.nil | exact Del.here | apply Del.there | apply Sel.cons | apply Sel.drop))))
        · intro w M
          refine WL.off rfl rfl rfl rfl ?_
          refine WL.off rfl rfl rfl rfl ?_
          refine WL.off rfl rfl rfl rfl ?_
          refine WL.off rfl rfl rfl rfl ?_
          refine WL.off rfl rfl rfl rfl ?_
          refine WL.off rfl rfl rfl rfl ?_
          refine WL.off rfl rfl rfl rfl ?_
          refine WL.off rfl rfl rfl rfl ?_
          refine WL.off rfl rfl rfl rfl ?_
          refine WL.off rfl rfl rfl rfl ?_
          refine WL.off rfl rfl rfl rfl ?_
          refine WL.off rfl rfl rfl rfl ?_
          refine WL.off rfl rfl rfl rfl ?_
          refine WL.off rfl rfl rfl rfl ?_
          refine WL.off rfl rfl rfl rfl ?_
          refine WL.off rfl rfl rfl rfl ?_
          refine WL.off rfl rfl rfl rfl ?_
          refine WL.off rfl rfl rfl rfl ?_
          refine WL.pickT rfl rfl rfl ?_
          exact Chain.end_ rfl
        refine DG.end_ (by kernel_rfl) ?_
        refine WX.join (()) (envSub.cons rfl (envSub.cons rfl (envSub.cons rfl (envSub.cons (by rw [show due span (now + 1) (el l i) = true by rw [hqe]; simp; omega]; rfl) envSub.nil)))) ⟨M.sel (by first | ((repeat (first | with_reducible exact Sel.refl | with_reducible exact Sel.nil | with_reducible exact Del.here | with_reducible apply Del.there | with_reducible apply Sel.cons | with_reducible apply Sel.drop)); done) | (repeat (first | exact Sel.refl | exact Sel.nil | exact Del.here | apply Del.there | apply Sel.cons | apply Sel.drop))), trivial⟩
      · apply DG.pure_ [9] 19 rfl (by kernel_rfl) (by kernel_rfl)
        · intro w
          refine WL.move rfl rfl ?_
          exact Chain.end_ rfl
        apply DG.take [10, 11, 12, 13, 14, 15, 16, 17, 18, 19, 20, 21, 22, 23, 24, 25, 26, 27, 28] 0 rfl (by kernel_rfl) (by kernel_rfl) (M.sel (by first | ((repeat (first | with_reducible exact Sel.refl | with_reducible exact Sel.nil | with_reducible exact Del.here | with_reducible apply Del.there | with_reducible apply Sel.cons | with_reducible apply Sel.drop)); done) | (repeat (first | exact Sel.refl | exact Sel.nil | exact Del.here | apply Del.there | apply Sel.cons | apply Sel.drop))))
        · intro w M
          refine WL.on rfl rfl ?_
          refine WL.move rfl rfl ?_
          refine WL.on rfl rfl ?_
          refine WL.nilCheck rfl rfl ?_
          refine WL.on rfl rfl ?_
          refine WL.fieldR (off := 4) Try.underlying32 rfl rfl Try.sizeOf3 rfl rfl rfl ?_
          refine WL.on rfl rfl ?_
          refine WL.loadR Try.isAgg3 rfl M (by first | ((repeat (first | with_reducible exact Has.here | with_reducible refine Has.there ?_)); done) | (repeat (first | exact Has.here | refine Has.there ?_))) rfl rfl ?_
          refine WL.on rfl rfl ?_
          refine WL.move rfl rfl ?_
          refine WL.on rfl rfl ?_
          refine WL.nilCheck rfl rfl ?_
          refine WL.on rfl rfl ?_
          refine WL.fieldR (off := 5) Try.underlying32 rfl rfl Try.sizeOf30 rfl rfl rfl ?_
          refine WL.on rfl rfl ?_
          refine WL.loadR Try.isAgg30 rfl M (by first | ((repeat (first | with_reducible exact Has.here | with_reducible refine Has.there ?_)); done) | (repeat (first | exact Has.here | refine Has.there ?_))) rfl rfl ?_
          refine WL.on rfl rfl ?_
          refine WL.move rfl rfl ?_
          refine WL.on rfl rfl ?_
          refine WL.idxA Try.underlying30 Try.sizeOf96 rfl rfl (RdL.isSome (E := rpieceE) (by first | with_reducible assumption | with_reducible exact RdL.mem (by with_reducible assumption) M | exact M.rdL (by first | ((repeat (first | with_reducible exact Has.here | with_reducible refine Has.there ?_)); done) | (repeat (first | exact Has.here | refine Has.there ?_))) | exact RdLH.at (by assumption) (M.sel (by first | ((repeat (first | with_reducible exact Sel.refl | with_reducible exact Sel.nil | with_reducible exact Del.here | with_reducible apply Del.there | with_reducible apply Sel.cons | with_reducible apply Sel.drop)); done) | (repeat (first | exact Sel.refl | exact Sel.nil | exact Del.here | apply Del.there | apply Sel.cons | apply Sel.drop)))) | exact RdL.nil _ _ _) (by omega)) (by omega) (by omega) (by first | exact rfl | exact (Int.toNat_of_nonneg (by omega)).symm) rfl ?_
          refine WL.on rfl rfl ?_
          refine WL.fieldA (off := 1) Try.underlying96 rfl rfl Try.sizeOf3 rfl rfl rfl ?_
          refine WL.on rfl rfl ?_
          refine WL.loadE (E := rpieceE) Try.isAgg3 rfl (by first | with_reducible assumption | with_reducible exact RdL.mem (by with_reducible assumption) M | exact M.rdL (by first | ((repeat (first | with_reducible exact Has.here | with_reducible refine Has.there ?_)); done) | (repeat (first | exact Has.here | refine Has.there ?_))) | exact RdLH.at (by assumption) (M.sel (by first | ((repeat (first | with_reducible exact Sel.refl | with_reducible exact Sel.nil | with_reducible exact Del.here | with_reducible apply Del.there | with_reducible apply Sel.cons | with_reducible apply Sel.drop)); done) | (repeat (first | exact Sel.refl | exact Sel.nil | exact Del.here | apply Del.there | apply Sel.cons | apply Sel.drop)))) | exact RdL.nil _ _ _) (by omega) rfl rfl ?_
          refine WL.on rfl rfl ?_
          refine WL.sub' rfl rfl (by first | exact wI64 (by omega) | rfl) rfl ?_
          refine WL.on rfl rfl ?_
          refine WL.move rfl rfl ?_
          refine WL.on rfl rfl ?_
          refine WL.nilCheck rfl rfl ?_
          refine WL.on rfl rfl ?_
          refine WL.fieldR (off := 2) Try.underlying32 rfl rfl Try.sizeOf3 rfl rfl rfl ?_
          refine WL.on rfl rfl ?_
          refine WL.loadR Try.isAgg3 rfl M (by first | ((repeat (first | with_reducible exact Has.here | with_reducible refine Has.there ?_)); done) | (repeat (first | exact Has.here | refine Has.there ?_))) rfl rfl ?_
          refine WL.on rfl rfl ?_
          refine WL.geq rfl rfl rfl ?_
          refine WL.pickF rfl rfl rfl ?_
          exact Chain.end_ rfl
        refine DG.end_ (by kernel_rfl) ?_
        refine WX.join (()) (envSub.cons rfl (envSub.cons rfl (envSub.cons rfl (envSub.cons (by rw [hqe]; exact congrArg some (congrArg Value.bool (decide_eq_decide.2 (by omega)))) envSub.nil)))) ⟨M.sel (by first | ((repeat (first | with_reducible exact Sel.refl | with_reducible exact Sel.nil | with_reducible exact Del.here | with_reducible apply Del.there | with_reducible apply Sel.cons | with_reducible apply Sel.drop)); done) | (repeat (first | exact Sel.refl | exact Sel.nil | exact Del.here | apply Del.there | apply Sel.cons | apply Sel.drop))), trivial⟩
    clear M; rintro (_) w ⟨M, -⟩; dsimp only at M ⊢
    refine W.sub [(0, _), (3, _), (4, _), (66, _)] (.cons rfl (.cons rfl (.cons rfl (.cons rfl .nil)))) ?_
    refine W.cond rfl (fun c3 => ?_) (fun c3 => ?_)
    · (try simp only [Bool.not_eq_true'] at c3); (try simp only [Bool.not_eq_false'] at c3); (try simp only [decide_eq_true_eq] at c3); (try simp only [decide_eq_false_iff_not] at c3)
      have hd1 : due span (now + 1) (el l i) = true := c3
      refine W.seq ?_
      refine W.drawM (_) (by kernel_rfl) (fun j => [3, 8].contains j) M Sel.refl ?_
      clear M; intro M
      apply DG.pure_ [0, 1, 2, 4, 5, 6, 7] 5 rfl (by kernel_rfl) (by kernel_rfl)
      · intro w
        refine WL.move rfl rfl ?_
        refine WL.nilCheck rfl rfl ?_
        refine WL.fieldR (off := 5) Try.underlying32 rfl rfl Try.sizeOf30 rfl rfl rfl ?_
        refine WL.move rfl rfl ?_
        refine WL.move rfl rfl ?_
        refine WL.nilCheck rfl rfl ?_
        refine WL.fieldR (off := 4) Try.underlying32 rfl rfl Try.sizeOf3 rfl rfl rfl ?_
        exact Chain.end_ rfl
      apply DG.take [3, 8, 9, 10] 1 rfl (by kernel_rfl) (by kernel_rfl) (M.sel (by first | ((repeat (first | with_reducible exact Sel.refl | with_reducible exact Sel.nil | with_reducible exact Del.here | with_reducible apply Del.there | with_reducible apply Sel.cons | with_reducible apply Sel.drop)); done) | (repeat (first | exact Sel.refl | exact Sel.nil | exact Del.here | apply Del.there | apply Sel.cons | apply Sel.drop))))
      · intro w M
        refine WL.loadR Try.isAgg30 rfl M (by first | ((repeat (first | with_reducible exact Has.here | with_reducible refine Has.there ?_)); done) | (repeat (first | exact Has.here | refine Has.there ?_))) rfl rfl ?_
        refine WL.loadR Try.isAgg3 rfl M (by first | ((repeat (first | with_reducible exact Has.here | with_reducible refine Has.there ?_)); done) | (repeat (first | exact Has.here | refine Has.there ?_))) rfl rfl ?_
        refine WL.idxA Try.underlying30 Try.sizeOf96 rfl rfl (RdL.isSome (E := rpieceE) (by first | with_reducible assumption | with_reducible exact RdL.mem (by with_reducible assumption) M | exact M.rdL (by first | ((repeat (first | with_reducible exact Has.here | with_reducible refine Has.there ?_)); done) | (repeat (first | exact Has.here | refine Has.there ?_))) | exact RdLH.at (by assumption) (M.sel (by first | ((repeat (first | with_reducible exact Sel.refl | with_reducible exact Sel.nil | with_reducible exact Del.here | with_reducible apply Del.there | with_reducible apply Sel.cons | with_reducible apply Sel.drop)); done) | (repeat (first | exact Sel.refl | exact Sel.nil | exact Del.here | apply Del.there | apply Sel.cons | apply Sel.drop)))) | exact RdL.nil _ _ _) (by omega)) (by omega) (by omega) (by first | exact rfl | exact (Int.toNat_of_nonneg (by omega)).symm) rfl ?_
        refine WL.fieldA (off := 1) Try.underlying96 rfl rfl Try.sizeOf3 rfl rfl rfl ?_
        exact Chain.end_ rfl
      refine DG.step 11 0 rfl (by kernel_rfl) ?_
      refine WL.storeE (E := rpieceE) (x' := ⟨(el qs (acked + i)).x, now + 1⟩) Try.sizeOf3 rfl rfl rfl M (by first | ((repeat (first | with_reducible exact Has.here | with_reducible refine Has.there ?_)); done) | (repeat (first | exact Has.here | refine Has.there ?_))) (by omega) (by repeat (first | exact SetAt.zero | apply SetAt.succ)) (by first | ((repeat (first | with_reducible exact Upd.here | with_reducible apply Upd.there)); done) | (repeat (first | exact Upd.here | apply Upd.there))) ?_
      intro w M
      skip
      refine DG.go (G := fun j => [3, 8].contains j) (i := 11) (f' := 0) (done := [0, 1, 2, 4, 5, 6, 7, 3, 8, 9, 10]) (fun h => by cases h) ?_
      refine DG.end_ (by kernel_rfl) ?_
      refine WX.next ?_
      refine W.sub [(0, _), (3, _), (4, _)] (.cons rfl (.cons rfl (.cons rfl .nil))) ?_
      obtain ⟨qs2, hqs2⟩ : ∃ q, q = qs.set (acked + i) ⟨(el qs (acked + i)).x, now + 1⟩ := ⟨_, rfl⟩
      rw [← hqs2] at M
      have hq2l : qs2.length = qs.length := by rw [hqs2]; simp
      have hq2 : ∀ j, el qs2 j = if acked + i = j then ⟨(el qs (acked + i)).x, now + 1⟩ else el qs j := fun j => by rw [hqs2, el_set _ _ _ _ (by omega)]
      have hq2x : (el qs2 (acked + i)).x = (el ps (acked + i)).x := by rw [hq2, if_pos rfl]; exact hqx
      refine W.drawM (_) (by kernel_rfl) (fun j => [4, 11, 13, 14, 15].contains j) M Sel.refl ?_
      clear M; intro M
      apply DG.pure_ [0, 1, 2, 3, 5, 6, 7, 8, 9, 10, 12] 9 rfl (by kernel_rfl) (by kernel_rfl)
      · intro w
        refine WL.move rfl rfl ?_
        refine WL.move rfl rfl ?_
        refine WL.nilCheck rfl rfl ?_
        refine WL.fieldR (off := 0) Try.underlying32 rfl rfl Try.sizeOf22 rfl rfl rfl ?_
        refine WL.move rfl rfl ?_
        refine WL.add rfl rfl (show IntKind.i64.wrap (((acked + i : Nat) : Int) + 1) = ((acked + i + 1 : Nat) : Int) by rw [wI64 (by omega)]; omega) rfl ?_
        refine WL.conv Try.underlying3 Try.underlying22 rfl (wU64 (by omega)) rfl ?_
        refine WL.move rfl rfl ?_
        refine WL.nilCheck rfl rfl ?_
        refine WL.fieldR (off := 5) Try.underlying32 rfl rfl Try.sizeOf30 rfl rfl rfl ?_
        refine WL.move rfl rfl ?_
        exact Chain.end_ rfl
      apply DG.take [4, 11, 13, 14, 15, 16] 3 rfl (by kernel_rfl) (by kernel_rfl) (M.sel (by first | ((repeat (first | with_reducible exact Sel.refl | with_reducible exact Sel.nil | with_reducible exact Del.here | with_reducible apply Del.there | with_reducible apply Sel.cons | with_reducible apply Sel.drop)); done) | (repeat (first | exact Sel.refl | exact Sel.nil | exact Del.here | apply Del.there | apply Sel.cons | apply Sel.drop))))
      · intro w M
        refine WL.loadR Try.isAgg22 rfl M (by first | ((repeat (first | with_reducible exact Has.here | with_reducible refine Has.there ?_)); done) | (repeat (first | exact Has.here | refine Has.there ?_))) rfl rfl ?_
        refine WL.loadR Try.isAgg30 rfl M (by first | ((repeat (first | with_reducible exact Has.here | with_reducible refine Has.there ?_)); done) | (repeat (first | exact Has.here | refine Has.there ?_))) rfl rfl ?_
        refine WL.idxA Try.underlying30 Try.sizeOf96 rfl rfl (RdL.isSome (E := rpieceE) (by first | with_reducible assumption | with_reducible exact RdL.mem (by with_reducible assumption) M | exact M.rdL (by first | ((repeat (first | with_reducible exact Has.here | with_reducible refine Has.there ?_)); done) | (repeat (first | exact Has.here | refine Has.there ?_))) | exact RdLH.at (by assumption) (M.sel (by first | ((repeat (first | with_reducible exact Sel.refl | with_reducible exact Sel.nil | with_reducible exact Del.here | with_reducible apply Del.there | with_reducible apply Sel.cons | with_reducible apply Sel.drop)); done) | (repeat (first | exact Sel.refl | exact Sel.nil | exact Del.here | apply Del.there | apply Sel.cons | apply Sel.drop)))) | exact RdL.nil _ _ _) (by omega)) (by omega) (by omega) (by first | exact rfl | exact (Int.toNat_of_nonneg (by omega)).symm) rfl ?_
        refine WL.fieldA (off := 0) Try.underlying96 rfl rfl Try.sizeOf34 rfl rfl rfl ?_
        refine WL.loadE (E := rpieceE) Try.isAgg34 rfl (by first | with_reducible assumption | with_reducible exact RdL.mem (by with_reducible assumption) M | exact M.rdL (by first | ((repeat (first | with_reducible exact Has.here | with_reducible refine Has.there ?_)); done) | (repeat (first | exact Has.here | refine Has.there ?_))) | exact RdLH.at (by assumption) (M.sel (by first | ((repeat (first | with_reducible exact Sel.refl | with_reducible exact Sel.nil | with_reducible exact Del.here | with_reducible apply Del.there | with_reducible apply Sel.cons | with_reducible apply Sel.drop)); done) | (repeat (first | exact Sel.refl | exact Sel.nil | exact Del.here | apply Del.there | apply Sel.cons | apply Sel.drop)))) | exact RdL.nil _ _ _) (by omega) rfl rfl ?_
        refine WL.buildP (places := #[(0, 1), (1, 1), (2, 1), (3, 1)]) Try.underlying36 Try.zeroValue36 (fun _ => by simp [Try.sizeOf22, Try.sizeOf22, Try.sizeOf4, Try.sizeOf34]) rfl (by repeat (first | exact Puts.nil | exact SetAt.zero | apply SetAt.succ | apply Puts.cons rfl rfl)) rfl ?_
        exact Chain.end_ rfl
      refine DG.step 17 2 rfl (by kernel_rfl) ?_
      refine WL.buildL (E := segE) (l := [⟨life, acked + i + 1, false, (el qs2 (acked + i)).x⟩]) Try.elem36 M rfl rfl rfl rfl rfl rfl ?_
      intro g8_17 w M
      refine DG.go (G := fun j => [4, 11, 13, 14, 15].contains j) (i := 17) (f' := 2) (done := [0, 1, 2, 3, 5, 6, 7, 8, 9, 10, 12, 4, 11, 13, 14, 15, 16]) (fun h => by cases h) ?_
      refine DG.step 18 1 rfl (by kernel_rfl) ?_
      refine WL.appendL (E := segE) Try.elem36 rfl rfl M (by first | ((repeat (first | with_reducible exact Del.here | with_reducible apply Del.there)); done) | (repeat (first | exact Del.here | apply Del.there))) (by first | with_reducible assumption | with_reducible exact RdL.mem (by with_reducible assumption) M | exact M.rdL (by first | ((repeat (first | with_reducible exact Has.here | with_reducible refine Has.there ?_)); done) | (repeat (first | exact Has.here | refine Has.there ?_))) | exact RdLH.at (by assumption) (M.sel (by first | ((repeat (first | with_reducible exact Sel.refl | with_reducible exact Sel.nil | with_reducible exact Del.here | with_reducible apply Del.there | with_reducible apply Sel.cons | with_reducible apply Sel.drop)); done) | (repeat (first | exact Sel.refl | exact Sel.nil | exact Del.here | apply Del.there | apply Sel.cons | apply Sel.drop)))) | exact RdL.nil _ _ _) rfl rfl (by have h1 := outTo_key_len life acked span (now + 1) l i; rw [← ho, List.length_map] at h1; simp; omega) (by have h1 := outTo_key_len life acked span (now + 1) l i; rw [← ho, List.length_map] at h1; simp [maxLen]; omega) rfl ?_
      intro A8_18 cap8_18 w M
      refine DG.go (G := fun j => [4, 11, 13, 14, 15].contains j) (i := 18) (f' := 1) (done := [0, 1, 2, 3, 5, 6, 7, 8, 9, 10, 12, 4, 11, 13, 14, 15, 16, 17]) (fun h => by cases h) ?_
      apply DG.pure_ [19] 0 rfl (by kernel_rfl) (by kernel_rfl)
      · intro w
        refine WL.assign rfl rfl ?_
        skip
        exact Chain.end_ rfl
      refine DG.end_ (by kernel_rfl) ?_
      refine WX.blockNormal ?_
      skip
      have q1 : ∀ j, j < ps.length → (el qs2 j).x = (el ps j).x ∧ (el qs2 j).sent = if acked ≤ j ∧ j < acked + (i + 1) ∧ due span (now + 1) (el l (j - acked)) then now + 1 else (el ps j).sent := by
        intro j hj
        obtain ⟨h1, h2⟩ := hqs j hj
        rw [hq2]
        by_cases e : acked + i = j
        · subst e
          rw [if_pos rfl, if_pos ⟨by omega, by omega, by rw [show acked + i - acked = i by omega]; exact hd1⟩]
          exact ⟨hqx, rfl⟩
        · rw [if_neg e]
          refine ⟨h1, ?_⟩
          rw [h2]
          have : (acked ≤ j ∧ j < acked + (i + 1) ∧ due span (now + 1) (el l (j - acked)) = true) ↔ (acked ≤ j ∧ j < acked + i ∧ due span (now + 1) (el l (j - acked)) = true) := ⟨fun h => ⟨h.1, by omega, h.2.2⟩, fun h => ⟨h.1, by omega, h.2.2⟩⟩
          simp only [this]
      have q2 : (outs ++ [(⟨life, acked + i + 1, false, (el qs2 (acked + i)).x⟩ : SX)]).map SX.key = outTo life acked span (now + 1) l (i + 1) := by
        rw [outTo, hd1, if_pos rfl, List.map_append, ho, hkey i (by omega)]
        simp only [List.map_cons, List.map_nil, SX.key, hq2x]
      have q3 : ∀ o ∈ outs ++ [(⟨life, acked + i + 1, false, (el qs2 (acked + i)).x⟩ : SX)], ∃ j, j < ps.length ∧ o.x = (el ps j).x := by
        intro o h
        rcases List.mem_append.1 h with h | h
        · exact hoo o h
        · rw [List.mem_singleton] at h
          subst h
          exact ⟨acked + i, hin, hq2x⟩
      refine WX.join (((qs2, outs ++ [⟨life, acked + i + 1, false, (el qs2 (acked + i)).x⟩]), (A8_18, cap8_18))) (by (repeat' (first | exact envSub.nil | refine envSub.cons ?_ ?_)) <;> first | rfl | (refine congrArg some ?_; refine congrArg (Value.int _) ?_; first | omega | (dsimp only; omega)) | (simp; done) | (refine congrArg some ?_; dsimp only; congr 1; omega) | (simp; omega)) ⟨M.sel (by first | ((repeat (first | with_reducible exact Sel.refl | with_reducible exact Sel.nil | with_reducible exact Del.here | with_reducible apply Del.there | with_reducible apply Sel.cons | with_reducible apply Sel.drop)); done) | (repeat (first | exact Sel.refl | exact Sel.nil | exact Del.here | apply Del.there | apply Sel.cons | apply Sel.drop))), ⟨hq2l.trans hq, q1, q2, q3⟩⟩
    · (try simp only [Bool.not_eq_true'] at c3); (try simp only [Bool.not_eq_false'] at c3); (try simp only [decide_eq_true_eq] at c3); (try simp only [decide_eq_false_iff_not] at c3)
      have hd0 : due span (now + 1) (el l i) = false := c3
      refine W.skip ?_
      refine WX.blockNormal ?_
      skip
      have q1 : ∀ j, j < ps.length → (el qs j).x = (el ps j).x ∧ (el qs j).sent = if acked ≤ j ∧ j < acked + (i + 1) ∧ due span (now + 1) (el l (j - acked)) then now + 1 else (el ps j).sent := by
        intro j hj
        obtain ⟨h1, h2⟩ := hqs j hj
        refine ⟨h1, ?_⟩
        rw [h2]
        have : (acked ≤ j ∧ j < acked + (i + 1) ∧ due span (now + 1) (el l (j - acked)) = true) ↔ (acked ≤ j ∧ j < acked + i ∧ due span (now + 1) (el l (j - acked)) = true) := by
          refine ⟨fun h => ⟨h.1, ?_, h.2.2⟩, fun h => ⟨h.1, by omega, h.2.2⟩⟩
          rcases Nat.lt_or_ge j (acked + i) with h3 | h3
          · exact h3
          · have h4 : j - acked = i := by omega
            rw [h4, hd0] at h
            exact absurd h.2.2 (by decide)
        simp only [this]
      refine WX.join (((qs, outs), (Ao, co))) (by (repeat' (first | exact envSub.nil | refine envSub.cons ?_ ?_)) <;> first | rfl | (refine congrArg some ?_; refine congrArg (Value.int _) ?_; first | omega | (dsimp only; omega)) | (simp; done) | (refine congrArg some ?_; dsimp only; congr 1; omega) | (simp; omega)) ⟨M.sel (by first | ((repeat (first | with_reducible exact Sel.refl | with_reducible exact Sel.nil | with_reducible exact Del.here | with_reducible apply Del.there | with_reducible apply Sel.cons | with_reducible apply Sel.drop)); done) | (repeat (first | exact Sel.refl | exact Sel.nil | exact Del.here | apply Del.there | apply Sel.cons | apply Sel.drop))), ⟨hq, q1, (by rw [outTo, hd0, ho]; simp), hoo⟩⟩
  clear M; rintro (⟨⟨rs, os⟩, Ar, cr⟩) w ⟨M, ⟨hr, hrs, hro, hroo⟩⟩; dsimp only at M hr hrs hro hroo ⊢
  refine W.sub [(0, _), (3, _), (4, _)] (.cons rfl (.cons rfl (.cons rfl .nil))) ?_
  refine W.region ?_
  refine WL.move rfl rfl ?_
  refine WL.add rfl rfl (by first | exact wI64 (by omega) | rfl) rfl ?_
  refine WL.assign rfl rfl ?_
  refine WL.nil ?_
  skip
  refine WX.round (((i + 1, rs, os), (Ar, cr))) (by (repeat' (first | exact envSub.nil | refine envSub.cons ?_ ?_)) <;> first | rfl | (refine congrArg some ?_; refine congrArg (Value.int _) ?_; first | omega | (dsimp only; omega)) | (simp; done) | (refine congrArg some ?_; dsimp only; congr 1; omega) | (simp; omega)) ⟨M.sel (by first | ((repeat (first | with_reducible exact Sel.refl | with_reducible exact Sel.nil | with_reducible exact Del.here | with_reducible apply Del.there | with_reducible apply Sel.cons | with_reducible apply Sel.drop)); done) | (repeat (first | exact Sel.refl | exact Sel.nil | exact Del.here | apply Del.there | apply Sel.cons | apply Sel.drop))), ⟨by dsimp only; omega, hr, hrs, hro, hroo⟩⟩ (by first | omega | (dsimp only; omega))

theorem Sames_ok {A1 A2 : Option Addr} {c1 c2 : Nat} {l1 l2 : List SX} {w0 : World} (h1 : RdL w0 segE A1 c1 l1) (h2 : RdL w0 segE A2 c2 l2)
    (hb1 : ∀ f ∈ l1, RdB w0 f.x.A f.x.cap f.x.l) (hb2 : ∀ f ∈ l2, RdB w0 f.x.A f.x.cap f.x.l) (hl : l1.length ≤ 1000000) :
    Fn Try.prog 21 [.slice A1 l1.length c1, .slice A2 l2.length c2] w0 fun v w' => v = .bool (decide (l1.map SX.key = l2.map SX.key)) ∧ Mem w0 w' [] := by
  have M := Mem.refl w0
  obtain ⟨w, hw⟩ : ∃ w, w = w0 := ⟨w0, rfl⟩
  refine Fn.enter Try.func21 rfl Try.ntmps21 rfl ?_
  refine W.sub [(0, _), (1, _)] (.cons rfl (.cons rfl .nil)) ?_
  refine W.seq ?_
  refine W.region ?_
  refine WL.assign rfl rfl ?_
  refine WL.nil ?_
  refine WX.next ?_
  refine W.sub [(0, _), (1, _)] (.cons rfl (.cons rfl .nil)) ?_
  refine W.seq ?_
  refine W.seq ?_
  refine W.region ?_
  refine WL.move rfl rfl ?_
  refine WL.len Try.underlying45 rfl rfl ?_
  refine WL.move rfl rfl ?_
  refine WL.len Try.underlying45 rfl rfl ?_
  refine WL.neI rfl rfl rfl ?_
  refine WL.nil ?_
  refine WX.next ?_
  refine W.sub [(0, _), (1, _), (10, _)] (.cons rfl (.cons rfl (.cons rfl .nil))) ?_
  refine W.ite rfl (fun c0 => ?_) (fun c0 => ?_)
  · refine W.seq ?_
    refine W.region ?_
    refine WL.assign rfl rfl ?_
    refine WL.nil ?_
    refine WX.next ?_
    refine W.sub [(4, _)] (.cons rfl .nil) ?_
    refine W.ret ?_
    refine WX.thenRet ?_
    refine WX.ret1 rfl rfl ?_
    exact ⟨by rw [decide_eq_false (fun h => c0 (by have := congrArg List.length h; simp at this; omega))], M⟩
  · refine W.skip ?_
    refine WX.next ?_
    refine W.seq ?_
    refine W.seq ?_
    refine W.region ?_
    refine WL.assign rfl rfl ?_
    refine WL.nil ?_
    refine WX.next ?_
    refine W.sub [(0, _), (1, _), (5, _)] (.cons rfl (.cons rfl (.cons rfl .nil))) ?_
    refine W.block ?_
    refine W.loop (ι := Nat) (fun k => [(0, .slice A1 l1.length c1), (1, .slice A2 l2.length c2), (5, .int .i64 (k : Int))]) (fun i w => Mem w0 w ((fun _ => []) i) ∧ (fun k => k ≤ l1.length ∧ (l1.take k).map SX.key = (l2.take k).map SX.key) i) (fun k => l1.length - k) (0) (by (repeat' (first | exact envSub.nil | refine envSub.cons ?_ ?_)) <;> first | rfl | (refine congrArg some ?_; refine congrArg (Value.int _) ?_; first | omega | (dsimp only; omega)) | (simp; done) | (refine congrArg some ?_; dsimp only; congr 1; omega) | (simp; omega)) ⟨M.sel (by first | ((repeat (first | with_reducible exact Sel.refl | with_reducible exact Sel.nil | with_reducible exact Del.here | with_reducible apply Del.there | with_reducible apply Sel.cons | with_reducible apply Sel.drop)); done) | (repeat (first | exact Sel.refl | exact Sel.nil | exact Del.here | apply Del.there | apply Sel.cons | apply Sel.drop))), (by first | trivial | omega | (dsimp only; omega) | (simp; done) | (simp; omega) | (refine ⟨?_, ?_⟩ <;> first | omega | (dsimp only; omega) | (simp; done)))⟩ ?_
    clear M; rintro (k) w ⟨M, ⟨hk, hs⟩⟩; dsimp only at M hk hs ⊢
    refine W.sub [(0, _), (1, _), (5, _)] (.cons rfl (.cons rfl (.cons rfl .nil))) ?_
    refine W.seq ?_
    refine W.seq ?_
    refine W.region ?_
    refine WL.move rfl rfl ?_
    refine WL.move rfl rfl ?_
    refine WL.len Try.underlying45 rfl rfl ?_
    refine WL.lss rfl rfl rfl ?_
    refine WL.nil ?_
    refine WX.next ?_
    refine W.sub [(0, _), (1, _), (5, _), (14, _)] (.cons rfl (.cons rfl (.cons rfl (.cons rfl .nil)))) ?_
    refine W.ite rfl (fun c1 => ?_) (fun c1 => ?_)
    · have e1 : (l1.take (k + 1)).map SX.key = (l1.take k).map SX.key ++ [(el l1 k).key] := by rw [List.take_add_one, el_get (by omega)]; simp
      have e2 : (l2.take (k + 1)).map SX.key = (l2.take k).map SX.key ++ [(el l2 k).key] := by rw [List.take_add_one, el_get (by omega)]; simp
      refine W.skip ?_
      refine WX.next ?_
      refine W.seq ?_
      refine W.block ?_
      refine W.seq ?_
      refine W.drawM (_) (by kernel_rfl) (fun j => [3, 7].contains j) M Sel.refl ?_
      clear M; intro M
      apply DG.pure_ [0, 1, 2, 4, 5, 6] 4 rfl (by kernel_rfl) (by kernel_rfl)
      · intro w
        refine WL.move rfl rfl ?_
        refine WL.move rfl rfl ?_
        refine WL.idxA Try.underlying45 Try.sizeOf36 rfl rfl (RdL.isSome (E := segE) (by first | with_reducible assumption | with_reducible exact RdL.mem (by with_reducible assumption) M | exact M.rdL (by first | ((repeat (first | with_reducible exact Has.here | with_reducible refine Has.there ?_)); done) | (repeat (first | exact Has.here | refine Has.there ?_))) | exact RdLH.at (by assumption) (M.sel (by first | ((repeat (first | with_reducible exact Sel.refl | with_reducible exact Sel.nil | with_reducible exact Del.here | with_reducible apply Del.there | with_reducible apply Sel.cons | with_reducible apply Sel.drop)); done) | (repeat (first | exact Sel.refl | exact Sel.nil | exact Del.here | apply Del.there | apply Sel.cons | apply Sel.drop)))) | exact RdL.nil _ _ _) (by omega)) (by omega) (by omega) (by first | exact rfl | exact (Int.toNat_of_nonneg (by omega)).symm) rfl ?_
        refine WL.move rfl rfl ?_
        refine WL.move rfl rfl ?_
        refine WL.idxA Try.underlying45 Try.sizeOf36 rfl rfl (RdL.isSome (E := segE) (by first | with_reducible assumption | with_reducible exact RdL.mem (by with_reducible assumption) M | exact M.rdL (by first | ((repeat (first | with_reducible exact Has.here | with_reducible refine Has.there ?_)); done) | (repeat (first | exact Has.here | refine Has.there ?_))) | exact RdLH.at (by assumption) (M.sel (by first | ((repeat (first | with_reducible exact Sel.refl | with_reducible exact Sel.nil | with_reducible exact Del.here | with_reducible apply Del.there | with_reducible apply Sel.cons | with_reducible apply Sel.drop)); done) | (repeat (first | exact Sel.refl | exact Sel.nil | exact Del.here | apply Del.there | apply Sel.cons | apply Sel.drop)))) | exact RdL.nil _ _ _) (by omega)) (by omega) (by omega) (by first | exact rfl | exact (Int.toNat_of_nonneg (by omega)).symm) rfl ?_
        exact Chain.end_ rfl
      apply DG.take [3, 7] 2 rfl (by kernel_rfl) (by kernel_rfl) (M.sel (by first | ((repeat (first | with_reducible exact Sel.refl | with_reducible exact Sel.nil | with_reducible exact Del.here | with_reducible apply Del.there | with_reducible apply Sel.cons | with_reducible apply Sel.drop)); done) | (repeat (first | exact Sel.refl | exact Sel.nil | exact Del.here | apply Del.there | apply Sel.cons | apply Sel.drop))))
      · intro w M
        refine WL.loadL (E := segE) (cs := [_, _, _, _]) Try.isAgg36 Try.sizeOf36 rfl (by first | with_reducible assumption | with_reducible exact RdL.mem (by with_reducible assumption) M | exact M.rdL (by first | ((repeat (first | with_reducible exact Has.here | with_reducible refine Has.there ?_)); done) | (repeat (first | exact Has.here | refine Has.there ?_))) | exact RdLH.at (by assumption) (M.sel (by first | ((repeat (first | with_reducible exact Sel.refl | with_reducible exact Sel.nil | with_reducible exact Del.here | with_reducible apply Del.there | with_reducible apply Sel.cons | with_reducible apply Sel.drop)); done) | (repeat (first | exact Sel.refl | exact Sel.nil | exact Del.here | apply Del.there | apply Sel.cons | apply Sel.drop)))) | exact RdL.nil _ _ _) rfl (by omega) rfl rfl ?_
        refine WL.loadL (E := segE) (cs := [_, _, _, _]) Try.isAgg36 Try.sizeOf36 rfl (by first | with_reducible assumption | with_reducible exact RdL.mem (by with_reducible assumption) M | exact M.rdL (by first | ((repeat (first | with_reducible exact Has.here | with_reducible refine Has.there ?_)); done) | (repeat (first | exact Has.here | refine Has.there ?_))) | exact RdLH.at (by assumption) (M.sel (by first | ((repeat (first | with_reducible exact Sel.refl | with_reducible exact Sel.nil | with_reducible exact Del.here | with_reducible apply Del.there | with_reducible apply Sel.cons | with_reducible apply Sel.drop)); done) | (repeat (first | exact Sel.refl | exact Sel.nil | exact Del.here | apply Del.there | apply Sel.cons | apply Sel.drop)))) | exact RdL.nil _ _ _) rfl (by omega) rfl rfl ?_
        exact Chain.end_ rfl
      refine DG.step 8 1 rfl (by kernel_rfl) ?_
      refine WL.call Try.call36 rfl (Same7_ok (el l1 k) (el l2 k) _ ((hb1 _ (el_mem (by omega))).mem M) ((hb2 _ (el_mem (by omega))).mem M)) rfl ?_
      rintro _ w ⟨rfl, m⟩
      replace M := M.call0 m; clear m
      refine DG.go (G := fun j => [3, 7].contains j) (i := 8) (f' := 1) (done := [0, 1, 2, 4, 5, 6, 3, 7]) (fun h => by cases h) ?_
      apply DG.pure_ [9] 0 rfl (by kernel_rfl) (by kernel_rfl)
      · intro w
        refine WL.notP rfl rfl ?_
        exact Chain.end_ rfl
      refine DG.end_ (by kernel_rfl) ?_
      refine WX.next ?_
      refine W.sub [(0, _), (1, _), (5, _), (26, _)] (.cons rfl (.cons rfl (.cons rfl (.cons rfl .nil)))) ?_
      refine W.ite rfl (fun c2 => ?_) (fun c2 => ?_)
      · refine W.seq ?_
        refine W.region ?_
        refine WL.assign rfl rfl ?_
        refine WL.nil ?_
        refine WX.next ?_
        refine W.sub [(4, _)] (.cons rfl .nil) ?_
        refine W.ret ?_
        refine WX.blockRet ?_
        refine WX.thenRet ?_
        refine WX.thenRet ?_
        refine WX.blockRet ?_
        refine WX.thenRet ?_
        refine WX.ret1 rfl rfl ?_
        exact ⟨by
          rw [decide_eq_false]
          intro h
          have h3 := congrArg (fun l => l[k]?) h
          simp only [List.getElem?_map, el_get (show k < l1.length by omega), el_get (show k < l2.length by omega), Option.map_some, Option.some.injEq] at h3
          exact c2 h3, M⟩
      · refine W.skip ?_
        refine WX.blockNormal ?_
        refine WX.next ?_
        refine W.region ?_
        refine WL.move rfl rfl ?_
        refine WL.add rfl rfl (by first | exact wI64 (by omega) | rfl) rfl ?_
        refine WL.assign rfl rfl ?_
        refine WL.nil ?_
        skip
        have q : (l1.take (k + 1)).map SX.key = (l2.take (k + 1)).map SX.key := by rw [e1, e2, hs, Decidable.not_not.1 c2]
        refine WX.round (k + 1) (by (repeat' (first | exact envSub.nil | refine envSub.cons ?_ ?_)) <;> first | rfl | (refine congrArg some ?_; refine congrArg (Value.int _) ?_; first | omega | (dsimp only; omega)) | (simp; done) | (refine congrArg some ?_; dsimp only; congr 1; omega) | (simp; omega)) ⟨M.sel (by first | ((repeat (first | with_reducible exact Sel.refl | with_reducible exact Sel.nil | with_reducible exact Del.here | with_reducible apply Del.there | with_reducible apply Sel.cons | with_reducible apply Sel.drop)); done) | (repeat (first | exact Sel.refl | exact Sel.nil | exact Del.here | apply Del.there | apply Sel.cons | apply Sel.drop))), ⟨by omega, q⟩⟩ (by first | omega | (dsimp only; omega))
    · obtain rfl : k = l1.length := by omega
      refine W.exit ?_
      refine WX.thenExit ?_
      refine WX.thenExit ?_
      refine WX.blockHere ?_
      refine WX.next ?_
      refine W.seq ?_
      refine W.region ?_
      refine WL.assign rfl rfl ?_
      refine WL.nil ?_
      refine WX.next ?_
      refine W.sub [(4, _)] (.cons rfl .nil) ?_
      refine W.ret ?_
      refine WX.ret1 rfl rfl ?_
      exact ⟨by rw [decide_eq_true (by rw [List.take_length] at hs; rw [hs, List.take_of_length_le (by omega)])], M⟩

/-! ### the same, said of the new state's parts -/
/-- The document's sender at g, standing for s. -/
def RnX.of (g : Nat) (A : Option Addr) (cap : Nat) (ps : List PX) (s : Sn) : RnX := ⟨g, A, cap, ps, s.life, s.window, s.span, s.acked, s.now⟩
/-- What it has fits. -/
def RnX.fits (ps : List PX) (s : Sn) : Prop := (ps.map PX.key).drop s.acked = s.l ∧ s.acked ≤ ps.length
theorem RnX.of_sn {g : Nat} {A : Option Addr} {cap : Nat} {ps : List PX} {s : Sn} (h : RnX.fits ps s) : (RnX.of g A cap ps s).sn = s := by
  unfold RnX.of RnX.sn
  dsimp only
  rw [h.1]
theorem RnX.back {x : RnX} {g : Nat} {s : Sn} (hg : x.g = g) (hs : x.sn = s) (ha : x.acked ≤ x.ps.length) : x = RnX.of g x.A x.cap x.ps s ∧ RnX.fits x.ps s := by
  subst hg hs
  exact ⟨rfl, rfl, ha⟩
theorem refPush2 (g : Nat) (B : Option Addr) (cB : Nat) (ps : List PX) (s : Sn) (hf : RnX.fits ps s) (hs : s.ok) (A : Option Addr) (cap : Nat) (b : List UInt8) (w0 w : World) (L L' : List Asr) (M : Mem w0 w L) (hd : Del (RnX.of g B cB ps s).O L L') (hb : RdH w0 L' A cap b) :
    Fn Try.prog 16 [.pointer (some ⟨g, 0, none⟩), .slice A b.length cap] w fun v w' => ∃ (B' : Option Addr) (c' : Nat) (ps' : List PX), v = .int .i64 (pushE s b) ∧ RnX.fits ps' (pushS s b) ∧ Mem w0 w' ((RnX.of g B' c' ps' (pushS s b)).O :: L') :=
  (refPush_ok (RnX.of g B cB ps s) hf.2 (by rw [RnX.of_sn hf]; exact hs) A cap b w0 w L L' M hd hb).mono fun v w' ⟨x, hv, hg, hn, ha, M⟩ => by
    rw [RnX.of_sn hf] at hv hn
    obtain ⟨hx, hf'⟩ := RnX.back hg hn ha
    rw [hx] at M
    exact ⟨_, _, _, hv, hf', M⟩
theorem refHearS2 (g : Nat) (B : Option Addr) (cB : Nat) (ps : List PX) (s : Sn) (hf : RnX.fits ps s) (hs : s.ok) (q : SX) (hq : q.seq < 18446744073709551616) (w0 w : World) (L L' : List Asr) (M : Mem w0 w L) (hd : Del (RnX.of g B cB ps s).O L L') :
    Fn Try.prog 23 [.pointer (some ⟨g, 0, none⟩), q.v] w fun v w' => ∃ (B' : Option Addr) (c' : Nat) (ps' : List PX), v = .int .i64 (hearE s q.key) ∧ RnX.fits ps' (hearS s q.key) ∧ Mem w0 w' ((RnX.of g B' c' ps' (hearS s q.key)).O :: L') :=
  (refHearS_ok (RnX.of g B cB ps s) hf.2 (by rw [RnX.of_sn hf]; exact hs) q hq w0 w L L' M hd).mono fun v w' ⟨x, hv, hg, hn, ha, M⟩ => by
    rw [RnX.of_sn hf] at hv hn
    obtain ⟨hx, hf'⟩ := RnX.back hg hn ha
    rw [hx] at M
    exact ⟨_, _, _, hv, hf', M⟩
theorem refTick2 (g : Nat) (B : Option Addr) (cB : Nat) (ps : List PX) (s : Sn) (hf : RnX.fits ps s) (hs : s.ok) (w0 w : World) (L L' : List Asr) (M : Mem w0 w L) (hd : Del (RnX.of g B cB ps s).O L L') :
    Fn Try.prog 20 [.pointer (some ⟨g, 0, none⟩)] w fun v w' => ∃ (B' : Option Addr) (c' : Nat) (ps' : List PX) (A : Option Addr) (cap : Nat) (outs : List SX), v = .slice A outs.length cap ∧ RnX.fits ps' (tickS s) ∧ outs.map SX.key = tickO s ∧
      (∀ o ∈ outs, ∃ p ∈ ps', o.x = p.x) ∧ Mem w0 w' (Asr.lst segE A cap outs :: (RnX.of g B' c' ps' (tickS s)).O :: L') :=
  (refTick_ok (RnX.of g B cB ps s) hf.2 (by rw [RnX.of_sn hf]; exact hs) w0 w L L' M hd).mono fun v w' ⟨x, A, cap, outs, hv, hg, hn, ha, ho, hoo, M⟩ => by
    rw [RnX.of_sn hf] at hn ho
    obtain ⟨hx, hf'⟩ := RnX.back hg hn ha
    rw [hx] at M
    exact ⟨_, _, _, A, cap, outs, hv, hf', ho, hoo, M⟩
end Go.Proofs.Ytgaegaaaoopolaa
