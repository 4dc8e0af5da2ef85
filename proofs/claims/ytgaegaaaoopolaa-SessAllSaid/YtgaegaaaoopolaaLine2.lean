/-
  Walks: a line with losses (seawalllaw07): comes, pick, start.
-/
import Derived.Test.YtgaegaaaoopolaaLine
namespace Go.Proofs.Ytgaegaaaoopolaa
open Go Go.RowKit

/-- A line as it lies. -/
structure LnX where
  g : Nat
  gs : Nat
  As : Option Addr
  cs : Nat
  ps : List PX
  s : Sn
  gr : Nat
  gm : Nat
  ms : List (Nat × OX)
  r : Rc
  At : Option Addr
  ct : Nat
  to : List SX
  Ab : Option Addr
  cb : Nat
  back : List SX
  Ao : Option Addr
  co : Nat
  out : List OX
def LnX.row (x : LnX) : List Value := [.pointer (some ⟨x.gs, 0, none⟩), .pointer (some ⟨x.gr, 0, none⟩), .slice x.At x.to.length x.ct, .slice x.Ab x.back.length x.cb, .slice x.Ao x.out.length x.co]
def LnX.L (x : LnX) : List Asr := [Asr.row x.g 62 x.row, SnX.O ⟨x.gs, x.As, x.cs, x.ps, x.s⟩, (RcX.of x.gr x.gm x.ms x.r).O, Asr.lst segE x.At x.ct x.to, Asr.lst segE x.Ab x.cb x.back, Asr.lst oxE x.Ao x.co x.out, Asr.star (x.out.map OX.O)]
def LnX.n (x : LnX) : Ln := ⟨x.s, x.r, x.to.map SX.key, x.back.map SX.key, x.out.map OX.l⟩
structure LnX.is (x : LnX) : Prop where
  s : SnX.is ⟨x.gs, x.As, x.cs, x.ps, x.s⟩
  r : mmap OX.l x.ms = x.r.m

theorem rhA_key (r : Rc) (q : Key) : ((rhA r q).1, (rhA r q).2.1, (rhA r q).2.2.1, ([] : List UInt8)) = rhA r q := by
  unfold rhA
  split <;> rfl
set_option maxRecDepth 10000 in
theorem comes_ok (x : LnX) (hx : x.is) (hs : x.s.ok) (hr : x.r.ok) (ack : Bool) (q : SX) (hq1 : q.life < 18446744073709551616) (hq2 : q.seq < 18446744073709551616) (hbl : x.back.length < 1000000) (hol : x.out.length < 1000000) (hm : x.r.m.length < 1000)
    (w0 w : World) (L : List Asr) (M : Mem w0 w (x.L ++ L)) (hb : ack = false → RdH w0 L q.x.A q.x.cap q.x.l) :
    Fn Try.prog 30 [.pointer (some ⟨x.g, 0, none⟩), q.v, .bool ack] w fun v w' => ∃ As cs ps gm ms Ab cb back Ao co out,
      v = .bool (decide ((if ack then hearE x.s q.key else rhE x.r q.key) = 0)) ∧
      LnX.is ⟨x.g, x.gs, As, cs, ps, if ack then hearS x.s q.key else x.s, x.gr, gm, ms, if ack then x.r else rhS x.r q.key, x.At, x.ct, x.to, Ab, cb, back, Ao, co, out⟩ ∧
      back.map SX.key = x.back.map SX.key ++ (if ack then [] else [rhA x.r q.key]) ∧ out.map OX.l = x.out.map OX.l ++ (if ack then [] else rhO x.r q.key) ∧
      Mem w0 w' (LnX.L ⟨x.g, x.gs, As, cs, ps, if ack then hearS x.s q.key else x.s, x.gr, gm, ms, if ack then x.r else rhS x.r q.key, x.At, x.ct, x.to, Ab, cb, back, Ao, co, out⟩ ++ L) := by
  obtain ⟨g, gs, As, cs, ps, s, gr, gm, ms, r, At, ct, to, Ab, cb, back, Ao, co, out⟩ := x
  obtain ⟨his, hms⟩ := hx
  obtain ⟨ql, qs, qa, ⟨QA, qc, qb⟩⟩ := q
  have ho3 := rhO_len r (ql, qs, qa, qb)
  unfold SX.v
  unfold SX.key
  unfold LnX.L LnX.row at M
  simp only [List.cons_append, List.nil_append] at M
  dsimp only at his hms hs hr hbl hol hm hq1 hq2 hb M ⊢
  refine Fn.enter Try.func30 rfl Try.ntmps30 rfl ?_
  refine W.sub [(0, _), (1, _), (2, _)] (.cons rfl (.cons rfl (.cons rfl .nil))) ?_
  refine W.seq ?_
  refine W.region ?_
  refine WL.box rfl M rfl ?_
  intro g0_0 w M
  try simp only [Value.cells] at M
  try simp only [List.toList_toArray] at M
  refine WL.assign rfl rfl ?_
  refine WL.nil ?_
  refine WX.next ?_
  refine W.sub [(0, _), (2, _), (4, _)] (.cons rfl (.cons rfl (.cons rfl .nil))) ?_
  refine W.seq ?_
  refine W.seq ?_
  refine W.region ?_
  refine WL.move rfl rfl ?_
  refine WL.nil ?_
  refine WX.next ?_
  refine W.sub [(0, _), (4, _), (10, _)] (.cons rfl (.cons rfl (.cons rfl .nil))) ?_
  refine W.cond rfl (fun c0 => ?_) (fun c0 => ?_)
  · (try simp only [Bool.not_eq_true'] at c0); (try simp only [Bool.not_eq_false'] at c0); (try simp only [decide_eq_true_eq] at c0); (try simp only [decide_eq_false_iff_not] at c0)
    obtain rfl : ack = true := by simpa using c0
    refine W.seq ?_
    refine W.drawM (_) (by kernel_rfl) (fun j => [3, 4].contains j) M Sel.refl ?_
    clear M; intro M
    apply DG.pure_ [0, 1, 2] 5 rfl (by kernel_rfl) (by kernel_rfl)
    · intro w
      refine WL.move rfl rfl ?_
      refine WL.nilCheck rfl rfl ?_
      refine WL.fieldR (off := 0) Try.underlying62 rfl rfl Try.sizeOf24 rfl rfl rfl ?_
      exact Chain.end_ rfl
    apply DG.take [3, 4] 3 rfl (by kernel_rfl) (by kernel_rfl) (M.sel (by first | ((repeat (first | with_reducible exact Sel.refl | with_reducible exact Sel.nil | with_reducible exact Del.here | with_reducible apply Del.there | with_reducible apply Sel.cons | with_reducible apply Sel.drop)); done) | (repeat (first | exact Sel.refl | exact Sel.nil | exact Del.here | apply Del.there | apply Sel.cons | apply Sel.drop))))
    · intro w M
      refine WL.loadR Try.isAgg24 rfl M (by first | ((repeat (first | with_reducible exact Has.here | with_reducible refine Has.there ?_)); done) | (repeat (first | exact Has.here | refine Has.there ?_))) rfl rfl ?_
      refine WL.loadW Try.isAgg36 Try.sizeOf36 rfl M (by first | ((repeat (first | with_reducible exact Has.here | with_reducible refine Has.there ?_)); done) | (repeat (first | exact Has.here | refine Has.there ?_))) rfl rfl ?_
      exact Chain.end_ rfl
    refine DG.step 5 2 rfl (by kernel_rfl) ?_
    refine WL.call Try.call22 rfl (HearS2 ⟨gs, As, cs, ps, s⟩ his hs ⟨ql, qs, qa, ⟨QA, qc, qb⟩⟩ hq2 _ _ _ _ M (by first | ((repeat (first | with_reducible exact Del.here | with_reducible apply Del.there)); done) | (repeat (first | exact Del.here | apply Del.there)))) rfl ?_
    rintro _ w ⟨B2, cB2, ps2, rfl, his2, M⟩
    dsimp only at his2 M
    refine DG.go (G := fun j => [3, 4].contains j) (i := 5) (f' := 2) (done := [0, 1, 2, 3, 4]) (fun h => by cases h) ?_
    apply DG.pure_ [6, 7] 0 rfl (by kernel_rfl) (by kernel_rfl)
    · intro w
      refine WL.eqI rfl rfl rfl ?_
      refine WL.assign rfl rfl ?_
      exact Chain.end_ rfl
    refine DG.end_ (by kernel_rfl) ?_
    refine WX.next ?_
    refine W.sub [(6, _)] (.cons rfl .nil) ?_
    refine W.ret ?_
    refine WX.thenRet ?_
    refine WX.ret1 rfl rfl ?_
    exact ⟨B2, cB2, ps2, gm, ms, Ab, cb, back, Ao, co, out, rfl, ⟨his2, hms⟩, by simp, by simp, M.sel (by first | ((repeat (first | with_reducible exact Sel.refl | with_reducible exact Sel.nil | with_reducible exact Del.here | with_reducible apply Del.there | with_reducible apply Sel.cons | with_reducible apply Sel.drop)); done) | (repeat (first | exact Sel.refl | exact Sel.nil | exact Del.here | apply Del.there | apply Sel.cons | apply Sel.drop)))⟩
  · (try simp only [Bool.not_eq_true'] at c0); (try simp only [Bool.not_eq_false'] at c0); (try simp only [decide_eq_true_eq] at c0); (try simp only [decide_eq_false_iff_not] at c0)
    obtain rfl : ack = false := by simpa using c0
    replace hb := hb rfl
    refine W.skip ?_
    refine WX.next ?_
    refine W.seq ?_
    refine W.drawM ([Asr.row g 62 [.pointer (some ⟨gs, 0, none⟩), .pointer (some ⟨gr, 0, none⟩), .slice At to.length ct, .slice Ab back.length cb, .slice Ao out.length co], Asr.row g0_0 36 [.int .u64 (ql : Int), .int .u64 (qs : Int), .bool qa, .slice QA qb.length qc]]) (by kernel_rfl) (fun j => [3, 4, 10].contains j) M (by first | ((repeat (first | with_reducible exact Sel.refl | with_reducible exact Sel.nil | with_reducible exact Del.here | with_reducible apply Del.there | with_reducible apply Sel.cons | with_reducible apply Sel.drop)); done) | (repeat (first | exact Sel.refl | exact Sel.nil | exact Del.here | apply Del.there | apply Sel.cons | apply Sel.drop))) ?_
    clear M; intro M
    apply DG.pure_ [0, 1, 2] 11 rfl (by kernel_rfl) (by kernel_rfl)
    · intro w
      refine WL.move rfl rfl ?_
      refine WL.nilCheck rfl rfl ?_
      refine WL.fieldR (off := 1) Try.underlying62 rfl rfl Try.sizeOf60 rfl rfl rfl ?_
      exact Chain.end_ rfl
    apply DG.take [3, 4] 9 rfl (by kernel_rfl) (by kernel_rfl) (M.sel (by first | ((repeat (first | with_reducible exact Sel.refl | with_reducible exact Sel.nil | with_reducible exact Del.here | with_reducible apply Del.there | with_reducible apply Sel.cons | with_reducible apply Sel.drop)); done) | (repeat (first | exact Sel.refl | exact Sel.nil | exact Del.here | apply Del.there | apply Sel.cons | apply Sel.drop))))
    · intro w M
      refine WL.loadR Try.isAgg60 rfl M (by first | ((repeat (first | with_reducible exact Has.here | with_reducible refine Has.there ?_)); done) | (repeat (first | exact Has.here | refine Has.there ?_))) rfl rfl ?_
      refine WL.loadW Try.isAgg36 Try.sizeOf36 rfl M (by first | ((repeat (first | with_reducible exact Has.here | with_reducible refine Has.there ?_)); done) | (repeat (first | exact Has.here | refine Has.there ?_))) rfl rfl ?_
      exact Chain.end_ rfl
    refine DG.steps [5, 10] 8 rfl (by kernel_rfl) rfl ?_
    intro i hi; simp only [List.mem_cons, List.not_mem_nil, or_false] at hi; rcases hi with rfl | rfl
    · refine WL.call Try.call33 rfl (HearR2 gr gm ms r hms hr ⟨ql, qs, qa, ⟨QA, qc, qb⟩⟩ hq1 hq2 _ _ _ _ M (by first | ((repeat (first | with_reducible exact Del.here | with_reducible apply Del.there)); done) | (repeat (first | exact Del.here | apply Del.there))) (by intro w M; exact hb.at (M.sel (by first | ((repeat (first | with_reducible exact Sel.refl | with_reducible exact Sel.nil | with_reducible exact Del.here | with_reducible apply Del.there | with_reducible apply Sel.cons | with_reducible apply Sel.drop)); done) | (repeat (first | exact Sel.refl | exact Sel.nil | exact Del.here | apply Del.there | apply Sel.cons | apply Sel.drop)))))) rfl ?_
      rintro _ w ⟨gm5, ms5, A5, k5, o5, rfl, hms5, ho5, hb5, M⟩
      have hl5 := congrArg List.length ho5
      rw [List.length_map] at hl5
      unfold SX.key at hl5 ho5 hms5 M ⊢
      dsimp only at hl5 ho5 hms5 M ⊢
      refine DG.go (G := fun j => [3, 4, 10].contains j) (i := 5) (f' := 8) (done := [0, 1, 2, 3, 4]) (fun h => by cases h) ?_
      apply DG.pure_ [6, 7, 8, 9] 4 rfl (by kernel_rfl) (by kernel_rfl)
      · intro w
        refine WL.move rfl rfl ?_
        refine WL.extractL rfl rfl rfl ?_
        refine WL.extractL rfl rfl rfl ?_
        refine WL.extractL rfl rfl rfl ?_
        exact Chain.end_ rfl
      refine DG.step 10 3 rfl (by kernel_rfl) ?_
      refine WL.alloc Try.zeroValue36 M rfl ?_
      intro g3_10 w M
      try simp only [Value.cells] at M
      try simp only [List.toList_toArray] at M
      refine DG.go (G := fun j => [3, 4, 10].contains j) (i := 10) (f' := 3) (done := [0, 1, 2, 3, 4, 5, 6, 7, 8, 9]) (fun _ => M.sel (by first | ((repeat (first | with_reducible exact Sel.refl | with_reducible exact Sel.nil | with_reducible exact Del.here | with_reducible apply Del.there | with_reducible apply Sel.cons | with_reducible apply Sel.drop)); done) | (repeat (first | exact Sel.refl | exact Sel.nil | exact Del.here | apply Del.there | apply Sel.cons | apply Sel.drop)))) ?_
      apply DG.pure_ [11] 2 rfl (by kernel_rfl) (by kernel_rfl)
      · intro w
        refine WL.assign rfl rfl ?_
        exact Chain.end_ rfl
      refine DG.step 12 1 rfl (by kernel_rfl) ?_
      refine WL.storeWA Try.sizeOf36 rfl rfl (by repeat (first | exact oneNil | refine oneCons rfl ?_)) rfl rfl M (by first | ((repeat (first | with_reducible exact Upd.here | with_reducible apply Upd.there)); done) | (repeat (first | exact Upd.here | apply Upd.there))) ?_
      intro w M
      refine DG.go (G := fun j => [3, 4, 10].contains j) (i := 12) (f' := 1) (done := [0, 1, 2, 3, 4, 5, 6, 7, 8, 9, 10, 11]) (fun h => by cases h) ?_
      apply DG.pure_ [13] 0 rfl (by kernel_rfl) (by kernel_rfl)
      · intro w
        refine WL.assign rfl rfl ?_
        exact Chain.end_ rfl
      refine DG.end_ (by kernel_rfl) ?_
      refine WX.next ?_
      refine W.sub [(0, _), (7, _), (8, _), (9, _)] (.cons rfl (.cons rfl (.cons rfl (.cons rfl .nil)))) ?_
      refine W.seq ?_
      refine W.region ?_
      refine WL.move rfl rfl ?_
      refine WL.move rfl rfl ?_
      refine WL.nilCheck rfl rfl ?_
      refine WL.fieldR (off := 4) Try.underlying62 rfl rfl Try.sizeOf33 rfl rfl rfl ?_
      refine WL.loadR Try.isAgg33 rfl M (by first | ((repeat (first | with_reducible exact Has.here | with_reducible refine Has.there ?_)); done) | (repeat (first | exact Has.here | refine Has.there ?_))) rfl rfl ?_
      refine WL.move rfl rfl ?_
      refine WL.appendL (E := oxE) Try.elem34 rfl rfl M (by first | ((repeat (first | with_reducible exact Del.here | with_reducible apply Del.there)); done) | (repeat (first | exact Del.here | apply Del.there))) (by first | with_reducible assumption | with_reducible exact RdL.mem (by with_reducible assumption) M | exact M.rdL (by first | ((repeat (first | with_reducible exact Has.here | with_reducible refine Has.there ?_)); done) | (repeat (first | exact Has.here | refine Has.there ?_))) | exact RdLH.at (by assumption) (M.sel (by first | ((repeat (first | with_reducible exact Sel.refl | with_reducible exact Sel.nil | with_reducible exact Del.here | with_reducible apply Del.there | with_reducible apply Sel.cons | with_reducible apply Sel.drop)); done) | (repeat (first | exact Sel.refl | exact Sel.nil | exact Del.here | apply Del.there | apply Sel.cons | apply Sel.drop)))) | exact RdL.nil _ _ _) rfl rfl (by first | omega | (simp; done) | (simp; omega)) (by first | (simp only [maxLen]; omega) | (simp [maxLen]; done) | (simp [maxLen]; omega)) rfl ?_
      intro A4_6 cap4_6 w M
      refine WL.nilCheck rfl rfl ?_
      refine WL.fieldR (off := 4) Try.underlying62 rfl rfl Try.sizeOf33 rfl rfl rfl ?_
      refine WL.storeR Try.sizeOf33 rfl rfl rfl M (by first | ((repeat (first | with_reducible exact Has.here | with_reducible refine Has.there ?_)); done) | (repeat (first | exact Has.here | refine Has.there ?_))) (by repeat (first | exact SetAt.zero | apply SetAt.succ)) (by first | ((repeat (first | with_reducible exact Upd.here | with_reducible apply Upd.there)); done) | (repeat (first | exact Upd.here | apply Upd.there))) ?_
      intro w M
      refine WL.nil ?_
      refine WX.next ?_
      refine W.sub [(0, _), (8, _), (9, _)] (.cons rfl (.cons rfl (.cons rfl .nil))) ?_
      refine W.seq ?_
      refine W.drawM (_) (by kernel_rfl) (fun j => [4, 5, 6].contains j) M Sel.refl ?_
      clear M; intro M
      apply DG.pure_ [0, 1, 2, 3] 7 rfl (by kernel_rfl) (by kernel_rfl)
      · intro w
        refine WL.move rfl rfl ?_
        refine WL.move rfl rfl ?_
        refine WL.nilCheck rfl rfl ?_
        refine WL.fieldR (off := 3) Try.underlying62 rfl rfl Try.sizeOf45 rfl rfl rfl ?_
        exact Chain.end_ rfl
      apply DG.take [4, 5] 5 rfl (by kernel_rfl) (by kernel_rfl) (M.sel (by first | ((repeat (first | with_reducible exact Sel.refl | with_reducible exact Sel.nil | with_reducible exact Del.here | with_reducible apply Del.there | with_reducible apply Sel.cons | with_reducible apply Sel.drop)); done) | (repeat (first | exact Sel.refl | exact Sel.nil | exact Del.here | apply Del.there | apply Sel.cons | apply Sel.drop))))
      · intro w M
        refine WL.loadR Try.isAgg45 rfl M (by first | ((repeat (first | with_reducible exact Has.here | with_reducible refine Has.there ?_)); done) | (repeat (first | exact Has.here | refine Has.there ?_))) rfl rfl ?_
        refine WL.loadW Try.isAgg36 Try.sizeOf36 rfl M (by first | ((repeat (first | with_reducible exact Has.here | with_reducible refine Has.there ?_)); done) | (repeat (first | exact Has.here | refine Has.there ?_))) rfl rfl ?_
        exact Chain.end_ rfl
      refine DG.step 6 4 rfl (by kernel_rfl) ?_
      refine WL.buildL (E := segE) (l := [⟨(rhA r (ql, qs, qa, qb)).1, (rhA r (ql, qs, qa, qb)).2.1, (rhA r (ql, qs, qa, qb)).2.2.1, ⟨none, 0, []⟩⟩]) Try.elem36 M rfl rfl rfl rfl rfl rfl ?_
      intro g5_6 w M
      refine DG.go (G := fun j => [4, 5, 6].contains j) (i := 6) (f' := 4) (done := [0, 1, 2, 3, 4, 5]) (fun _ => M.sel (by first | ((repeat (first | with_reducible exact Sel.refl | with_reducible exact Sel.nil | with_reducible exact Del.here | with_reducible apply Del.there | with_reducible apply Sel.cons | with_reducible apply Sel.drop)); done) | (repeat (first | exact Sel.refl | exact Sel.nil | exact Del.here | apply Del.there | apply Sel.cons | apply Sel.drop)))) ?_
      refine DG.step 7 3 rfl (by kernel_rfl) ?_
      refine WL.appendL (E := segE) Try.elem36 rfl rfl M (by first | ((repeat (first | with_reducible exact Del.here | with_reducible apply Del.there)); done) | (repeat (first | exact Del.here | apply Del.there))) (by first | with_reducible assumption | with_reducible exact RdL.mem (by with_reducible assumption) M | exact M.rdL (by first | ((repeat (first | with_reducible exact Has.here | with_reducible refine Has.there ?_)); done) | (repeat (first | exact Has.here | refine Has.there ?_))) | exact RdLH.at (by assumption) (M.sel (by first | ((repeat (first | with_reducible exact Sel.refl | with_reducible exact Sel.nil | with_reducible exact Del.here | with_reducible apply Del.there | with_reducible apply Sel.cons | with_reducible apply Sel.drop)); done) | (repeat (first | exact Sel.refl | exact Sel.nil | exact Del.here | apply Del.there | apply Sel.cons | apply Sel.drop)))) | exact RdL.nil _ _ _) rfl rfl (by first | omega | (simp; done) | (simp; omega)) (by first | (simp only [maxLen]; omega) | (simp [maxLen]; done) | (simp [maxLen]; omega)) rfl ?_
      intro A5_7 cap5_7 w M
      refine DG.go (G := fun j => [4, 5, 6].contains j) (i := 7) (f' := 3) (done := [0, 1, 2, 3, 4, 5, 6]) (fun h => by cases h) ?_
      apply DG.pure_ [8, 9] 1 rfl (by kernel_rfl) (by kernel_rfl)
      · intro w
        refine WL.nilCheck rfl rfl ?_
        refine WL.fieldR (off := 3) Try.underlying62 rfl rfl Try.sizeOf45 rfl rfl rfl ?_
        exact Chain.end_ rfl
      refine DG.step 10 0 rfl (by kernel_rfl) ?_
      refine WL.storeR Try.sizeOf45 rfl rfl rfl M (by first | ((repeat (first | with_reducible exact Has.here | with_reducible refine Has.there ?_)); done) | (repeat (first | exact Has.here | refine Has.there ?_))) (by repeat (first | exact SetAt.zero | apply SetAt.succ)) (by first | ((repeat (first | with_reducible exact Upd.here | with_reducible apply Upd.there)); done) | (repeat (first | exact Upd.here | apply Upd.there))) ?_
      intro w M
      refine DG.go (G := fun j => [4, 5, 6].contains j) (i := 10) (f' := 0) (done := [0, 1, 2, 3, 4, 5, 6, 7, 8, 9]) (fun h => by cases h) ?_
      refine DG.end_ (by kernel_rfl) ?_
      refine WX.next ?_
      refine W.sub [(9, _)] (.cons rfl .nil) ?_
      refine W.seq ?_
      refine W.region ?_
      refine WL.move rfl rfl ?_
      refine WL.eqI rfl rfl rfl ?_
      refine WL.assign rfl rfl ?_
      refine WL.nil ?_
      refine WX.next ?_
      refine W.sub [(6, _)] (.cons rfl .nil) ?_
      refine W.ret ?_
      refine WX.ret1 rfl rfl ?_
      have M5 := Mem.starJoin (M.sel (K := Asr.star (out.map OX.O) :: Asr.star (o5.map OX.O) :: Asr.row g 62 _ :: SnX.O ⟨gs, As, cs, ps, s⟩ :: (RcX.of gr gm5 ms5 (rhS r (ql, qs, qa, qb))).O :: Asr.lst segE At ct to :: Asr.lst segE A5_7 cap5_7 _ :: Asr.lst oxE A4_6 cap4_6 (out ++ o5) :: L) (by first | ((repeat (first | with_reducible exact Sel.refl | with_reducible exact Sel.nil | with_reducible exact Del.here | with_reducible apply Del.there | with_reducible apply Sel.cons | with_reducible apply Sel.drop)); done) | (repeat (first | exact Sel.refl | exact Sel.nil | exact Del.here | apply Del.there | apply Sel.cons | apply Sel.drop))))
      rw [← List.map_append] at M5
      exact ⟨As, cs, ps, gm5, ms5, A5_7, cap5_7, back ++ [⟨(rhA r (ql, qs, qa, qb)).1, (rhA r (ql, qs, qa, qb)).2.1, (rhA r (ql, qs, qa, qb)).2.2.1, ⟨none, 0, []⟩⟩], A4_6, cap4_6, out ++ o5, rfl, ⟨his, hms5⟩, (by rw [List.map_append]; exact congrArg _ (congrArg (· :: []) (rhA_key r _))), (by rw [List.map_append, ho5]; rfl), M5.sel (by first | ((repeat (first | with_reducible exact Sel.refl | with_reducible exact Sel.nil | with_reducible exact Del.here | with_reducible apply Del.there | with_reducible apply Sel.cons | with_reducible apply Sel.drop)); done) | (repeat (first | exact Sel.refl | exact Sel.nil | exact Del.here | apply Del.there | apply Sel.cons | apply Sel.drop)))⟩
    · refine WL.alloc Try.zeroValue36 M rfl ?_
      intro g3_10 w M
      try simp only [Value.cells] at M
      try simp only [List.toList_toArray] at M
      refine DG.go (G := fun j => [3, 4, 10].contains j) (i := 10) (f' := 8) (done := [0, 1, 2, 3, 4]) (fun _ => M.sel (by first | ((repeat (first | with_reducible exact Sel.refl | with_reducible exact Sel.nil | with_reducible exact Del.here | with_reducible apply Del.there | with_reducible apply Sel.cons | with_reducible apply Sel.drop)); done) | (repeat (first | exact Sel.refl | exact Sel.nil | exact Del.here | apply Del.there | apply Sel.cons | apply Sel.drop)))) ?_
      refine DG.step 5 7 rfl (by kernel_rfl) ?_
      refine WL.call Try.call33 rfl (HearR2 gr gm ms r hms hr ⟨ql, qs, qa, ⟨QA, qc, qb⟩⟩ hq1 hq2 _ _ _ _ M (by first | ((repeat (first | with_reducible exact Del.here | with_reducible apply Del.there)); done) | (repeat (first | exact Del.here | apply Del.there))) (by intro w M; exact hb.at (M.sel (by first | ((repeat (first | with_reducible exact Sel.refl | with_reducible exact Sel.nil | with_reducible exact Del.here | with_reducible apply Del.there | with_reducible apply Sel.cons | with_reducible apply Sel.drop)); done) | (repeat (first | exact Sel.refl | exact Sel.nil | exact Del.here | apply Del.there | apply Sel.cons | apply Sel.drop)))))) rfl ?_
      rintro _ w ⟨gm5, ms5, A5, k5, o5, rfl, hms5, ho5, hb5, M⟩
      have hl5 := congrArg List.length ho5
      rw [List.length_map] at hl5
      unfold SX.key at hl5 ho5 hms5 M ⊢
      dsimp only at hl5 ho5 hms5 M ⊢
      refine DG.go (G := fun j => [3, 4, 10].contains j) (i := 5) (f' := 7) (done := [0, 1, 2, 3, 4, 10]) (fun h => by cases h) ?_
      apply DG.pure_ [6, 7, 8, 9, 11] 2 rfl (by kernel_rfl) (by kernel_rfl)
      · intro w
        refine WL.move rfl rfl ?_
        refine WL.extractL rfl rfl rfl ?_
        refine WL.extractL rfl rfl rfl ?_
        refine WL.extractL rfl rfl rfl ?_
        refine WL.assign rfl rfl ?_
        exact Chain.end_ rfl
      refine DG.step 12 1 rfl (by kernel_rfl) ?_
      refine WL.storeWA Try.sizeOf36 rfl rfl (by repeat (first | exact oneNil | refine oneCons rfl ?_)) rfl rfl M (by first | ((repeat (first | with_reducible exact Upd.here | with_reducible apply Upd.there)); done) | (repeat (first | exact Upd.here | apply Upd.there))) ?_
      intro w M
      refine DG.go (G := fun j => [3, 4, 10].contains j) (i := 12) (f' := 1) (done := [0, 1, 2, 3, 4, 10, 5, 6, 7, 8, 9, 11]) (fun h => by cases h) ?_
      apply DG.pure_ [13] 0 rfl (by kernel_rfl) (by kernel_rfl)
      · intro w
        refine WL.assign rfl rfl ?_
        exact Chain.end_ rfl
      refine DG.end_ (by kernel_rfl) ?_
      refine WX.next ?_
      refine W.sub [(0, _), (7, _), (8, _), (9, _)] (.cons rfl (.cons rfl (.cons rfl (.cons rfl .nil)))) ?_
      refine W.seq ?_
      refine W.region ?_
      refine WL.move rfl rfl ?_
      refine WL.move rfl rfl ?_
      refine WL.nilCheck rfl rfl ?_
      refine WL.fieldR (off := 4) Try.underlying62 rfl rfl Try.sizeOf33 rfl rfl rfl ?_
      refine WL.loadR Try.isAgg33 rfl M (by first | ((repeat (first | with_reducible exact Has.here | with_reducible refine Has.there ?_)); done) | (repeat (first | exact Has.here | refine Has.there ?_))) rfl rfl ?_
      refine WL.move rfl rfl ?_
      refine WL.appendL (E := oxE) Try.elem34 rfl rfl M (by first | ((repeat (first | with_reducible exact Del.here | with_reducible apply Del.there)); done) | (repeat (first | exact Del.here | apply Del.there))) (by first | with_reducible assumption | with_reducible exact RdL.mem (by with_reducible assumption) M | exact M.rdL (by first | ((repeat (first | with_reducible exact Has.here | with_reducible refine Has.there ?_)); done) | (repeat (first | exact Has.here | refine Has.there ?_))) | exact RdLH.at (by assumption) (M.sel (by first | ((repeat (first | with_reducible exact Sel.refl | with_reducible exact Sel.nil | with_reducible exact Del.here | with_reducible apply Del.there | with_reducible apply Sel.cons | with_reducible apply Sel.drop)); done) | (repeat (first | exact Sel.refl | exact Sel.nil | exact Del.here | apply Del.there | apply Sel.cons | apply Sel.drop)))) | exact RdL.nil _ _ _) rfl rfl (by first | omega | (simp; done) | (simp; omega)) (by first | (simp only [maxLen]; omega) | (simp [maxLen]; done) | (simp [maxLen]; omega)) rfl ?_
      intro A4_6 cap4_6 w M
      refine WL.nilCheck rfl rfl ?_
      refine WL.fieldR (off := 4) Try.underlying62 rfl rfl Try.sizeOf33 rfl rfl rfl ?_
      refine WL.storeR Try.sizeOf33 rfl rfl rfl M (by first | ((repeat (first | with_reducible exact Has.here | with_reducible refine Has.there ?_)); done) | (repeat (first | exact Has.here | refine Has.there ?_))) (by repeat (first | exact SetAt.zero | apply SetAt.succ)) (by first | ((repeat (first | with_reducible exact Upd.here | with_reducible apply Upd.there)); done) | (repeat (first | exact Upd.here | apply Upd.there))) ?_
      intro w M
      refine WL.nil ?_
      refine WX.next ?_
      refine W.sub [(0, _), (8, _), (9, _)] (.cons rfl (.cons rfl (.cons rfl .nil))) ?_
      refine W.seq ?_
      refine W.drawM (_) (by kernel_rfl) (fun j => [4, 5, 6].contains j) M Sel.refl ?_
      clear M; intro M
      apply DG.pure_ [0, 1, 2, 3] 7 rfl (by kernel_rfl) (by kernel_rfl)
      · intro w
        refine WL.move rfl rfl ?_
        refine WL.move rfl rfl ?_
        refine WL.nilCheck rfl rfl ?_
        refine WL.fieldR (off := 3) Try.underlying62 rfl rfl Try.sizeOf45 rfl rfl rfl ?_
        exact Chain.end_ rfl
      apply DG.take [4, 5] 5 rfl (by kernel_rfl) (by kernel_rfl) (M.sel (by first | ((repeat (first | with_reducible exact Sel.refl | with_reducible exact Sel.nil | with_reducible exact Del.here | with_reducible apply Del.there | with_reducible apply Sel.cons | with_reducible apply Sel.drop)); done) | (repeat (first | exact Sel.refl | exact Sel.nil | exact Del.here | apply Del.there | apply Sel.cons | apply Sel.drop))))
      · intro w M
        refine WL.loadR Try.isAgg45 rfl M (by first | ((repeat (first | with_reducible exact Has.here | with_reducible refine Has.there ?_)); done) | (repeat (first | exact Has.here | refine Has.there ?_))) rfl rfl ?_
        refine WL.loadW Try.isAgg36 Try.sizeOf36 rfl M (by first | ((repeat (first | with_reducible exact Has.here | with_reducible refine Has.there ?_)); done) | (repeat (first | exact Has.here | refine Has.there ?_))) rfl rfl ?_
        exact Chain.end_ rfl
      refine DG.step 6 4 rfl (by kernel_rfl) ?_
      refine WL.buildL (E := segE) (l := [⟨(rhA r (ql, qs, qa, qb)).1, (rhA r (ql, qs, qa, qb)).2.1, (rhA r (ql, qs, qa, qb)).2.2.1, ⟨none, 0, []⟩⟩]) Try.elem36 M rfl rfl rfl rfl rfl rfl ?_
      intro g5_6 w M
      refine DG.go (G := fun j => [4, 5, 6].contains j) (i := 6) (f' := 4) (done := [0, 1, 2, 3, 4, 5]) (fun _ => M.sel (by first | ((repeat (first | with_reducible exact Sel.refl | with_reducible exact Sel.nil | with_reducible exact Del.here | with_reducible apply Del.there | with_reducible apply Sel.cons | with_reducible apply Sel.drop)); done) | (repeat (first | exact Sel.refl | exact Sel.nil | exact Del.here | apply Del.there | apply Sel.cons | apply Sel.drop)))) ?_
      refine DG.step 7 3 rfl (by kernel_rfl) ?_
      refine WL.appendL (E := segE) Try.elem36 rfl rfl M (by first | ((repeat (first | with_reducible exact Del.here | with_reducible apply Del.there)); done) | (repeat (first | exact Del.here | apply Del.there))) (by first | with_reducible assumption | with_reducible exact RdL.mem (by with_reducible assumption) M | exact M.rdL (by first | ((repeat (first | with_reducible exact Has.here | with_reducible refine Has.there ?_)); done) | (repeat (first | exact Has.here | refine Has.there ?_))) | exact RdLH.at (by assumption) (M.sel (by first | ((repeat (first | with_reducible exact Sel.refl | with_reducible exact Sel.nil | with_reducible exact Del.here | with_reducible apply Del.there | with_reducible apply Sel.cons | with_reducible apply Sel.drop)); done) | (repeat (first | exact Sel.refl | exact Sel.nil | exact Del.here | apply Del.there | apply Sel.cons | apply Sel.drop)))) | exact RdL.nil _ _ _) rfl rfl (by first | omega | (simp; done) | (simp; omega)) (by first | (simp only [maxLen]; omega) | (simp [maxLen]; done) | (simp [maxLen]; omega)) rfl ?_
      intro A5_7 cap5_7 w M
      refine DG.go (G := fun j => [4, 5, 6].contains j) (i := 7) (f' := 3) (done := [0, 1, 2, 3, 4, 5, 6]) (fun h => by cases h) ?_
      apply DG.pure_ [8, 9] 1 rfl (by kernel_rfl) (by kernel_rfl)
      · intro w
        refine WL.nilCheck rfl rfl ?_
        refine WL.fieldR (off := 3) Try.underlying62 rfl rfl Try.sizeOf45 rfl rfl rfl ?_
        exact Chain.end_ rfl
      refine DG.step 10 0 rfl (by kernel_rfl) ?_
      refine WL.storeR Try.sizeOf45 rfl rfl rfl M (by first | ((repeat (first | with_reducible exact Has.here | with_reducible refine Has.there ?_)); done) | (repeat (first | exact Has.here | refine Has.there ?_))) (by repeat (first | exact SetAt.zero | apply SetAt.succ)) (by first | ((repeat (first | with_reducible exact Upd.here | with_reducible apply Upd.there)); done) | (repeat (first | exact Upd.here | apply Upd.there))) ?_
      intro w M
      refine DG.go (G := fun j => [4, 5, 6].contains j) (i := 10) (f' := 0) (done := [0, 1, 2, 3, 4, 5, 6, 7, 8, 9]) (fun h => by cases h) ?_
      refine DG.end_ (by kernel_rfl) ?_
      refine WX.next ?_
      refine W.sub [(9, _)] (.cons rfl .nil) ?_
      refine W.seq ?_
      refine W.region ?_
      refine WL.move rfl rfl ?_
      refine WL.eqI rfl rfl rfl ?_
      refine WL.assign rfl rfl ?_
      refine WL.nil ?_
      refine WX.next ?_
      refine W.sub [(6, _)] (.cons rfl .nil) ?_
      refine W.ret ?_
      refine WX.ret1 rfl rfl ?_
      have M5 := Mem.starJoin (M.sel (K := Asr.star (out.map OX.O) :: Asr.star (o5.map OX.O) :: Asr.row g 62 _ :: SnX.O ⟨gs, As, cs, ps, s⟩ :: (RcX.of gr gm5 ms5 (rhS r (ql, qs, qa, qb))).O :: Asr.lst segE At ct to :: Asr.lst segE A5_7 cap5_7 _ :: Asr.lst oxE A4_6 cap4_6 (out ++ o5) :: L) (by first | ((repeat (first | with_reducible exact Sel.refl | with_reducible exact Sel.nil | with_reducible exact Del.here | with_reducible apply Del.there | with_reducible apply Sel.cons | with_reducible apply Sel.drop)); done) | (repeat (first | exact Sel.refl | exact Sel.nil | exact Del.here | apply Del.there | apply Sel.cons | apply Sel.drop))))
      rw [← List.map_append] at M5
      exact ⟨As, cs, ps, gm5, ms5, A5_7, cap5_7, back ++ [⟨(rhA r (ql, qs, qa, qb)).1, (rhA r (ql, qs, qa, qb)).2.1, (rhA r (ql, qs, qa, qb)).2.2.1, ⟨none, 0, []⟩⟩], A4_6, cap4_6, out ++ o5, rfl, ⟨his, hms5⟩, (by rw [List.map_append]; exact congrArg _ (congrArg (· :: []) (rhA_key r _))), (by rw [List.map_append, ho5]; rfl), M5.sel (by first | ((repeat (first | with_reducible exact Sel.refl | with_reducible exact Sel.nil | with_reducible exact Del.here | with_reducible apply Del.there | with_reducible apply Sel.cons | with_reducible apply Sel.drop)); done) | (repeat (first | exact Sel.refl | exact Sel.nil | exact Del.here | apply Del.there | apply Sel.cons | apply Sel.drop)))⟩
end Go.Proofs.Ytgaegaaaoopolaa
