/-
  Walks: may a command be; its bytes (cdb).
-/
import Derived.Test.YtinbcidgdbmcjaaCdb1
namespace Go.Proofs.Ytinbcidgdbmcjaa
open Go Go.RowKit Bin

def maxL (k : Int) : Nat := if k = 2 then 4294967295 else if k = 3 then 18446744073709551615 else 0
def maxCt (k : Int) : Int := if k = 2 then 65535 else if k = 3 then 2147483647 else 0
def maxRm (k : Int) : Int := if k = 1 then 65535 else if k = 4 then 2147483647 else 0
def chkC (c : CmX) : Int := if kindC c.op < 0 then 190 else if maxL (kindC c.op) < c.lba ∨ c.count < 0 ∨ maxCt (kindC c.op) < c.count ∨ c.room < 0 ∨ maxRm (kindC c.op) < c.room then 191 else 0
theorem fm_kind {op : Int} (h : 0 ≤ kindC op) : (fmOf op).op = op ∧ (if (fmOf op).ln = 4 then 4294967295 else mostN (fmOf op).ln) = maxL (kindC op) ∧ (mostN (fmOf op).cn : Int) = maxCt (kindC op) ∧ (mostN (fmOf op).rn : Int) = maxRm (kindC op) := by
  unfold kindC fmOf at *
  by_cases h0 : op = 0 ∨ op = 37
  · simp only [if_pos h0]
    exact ⟨trivial, rfl, rfl, rfl⟩
  · simp only [if_neg h0] at h ⊢
    by_cases h1 : op = 18
    · simp only [if_pos h1]
      exact ⟨trivial, rfl, rfl, rfl⟩
    · simp only [if_neg h1] at h ⊢
      by_cases h2 : op = 40 ∨ op = 42 ∨ op = 53
      · simp only [if_pos h2]
        exact ⟨trivial, rfl, rfl, rfl⟩
      · simp only [if_neg h2] at h ⊢
        by_cases h3 : op = 136 ∨ op = 138
        · simp only [if_pos h3]
          exact ⟨trivial, rfl, rfl, rfl⟩
        · simp only [if_neg h3] at h ⊢
          by_cases h4 : op = 158
          · simp only [if_pos h4]
            exact ⟨trivial, rfl, rfl, rfl⟩
          · simp only [if_neg h4] at h
            exact absurd h (by decide)
structure CmX.inn (c : CmX) : Prop where
  lba : c.lba < 18446744073709551616
  count : -9223372036854775808 ≤ c.count ∧ c.count ≤ 9223372036854775807
  room : -9223372036854775808 ≤ c.room ∧ c.room ≤ 9223372036854775807
theorem mostN_le (n : Nat) : mostN n ≤ 18446744073709551615 := by
  unfold mostN
  split
  · omega
  · split
    · omega
    · split <;> omega
set_option maxHeartbeats 1000000 in
theorem cCheck_ok (c : CmX) (hc : c.inn) (w0 : World) : Fn Try.prog 63 [c.v] w0 fun v w' => v = .int .i64 (chkC c) ∧ Mem w0 w' [] := by
  have M := Mem.refl w0
  obtain ⟨w, hw⟩ : ∃ w, w = w0 := ⟨w0, rfl⟩
  obtain ⟨op, lba, ct, rm⟩ := c
  obtain ⟨b1, b2, b3⟩ := hc
  unfold CmX.v
  dsimp only at b1 b2 b3 ⊢
  refine Fn.enter Try.func63 rfl Try.ntmps63 rfl ?_
  refine W.sub [(0, _)] (.cons rfl .nil) ?_
  refine W.seq ?_
  refine W.region ?_
  refine WL.box rfl M rfl ?_
  intro g0_0 w M
  try simp only [Value.cells] at M
  try simp only [List.toList_toArray] at M
  refine WL.assign rfl rfl ?_
  refine WL.nil ?_
  refine WX.next ?_
  refine W.sub [(1, _)] (.cons rfl .nil) ?_
  refine W.seq ?_
  refine W.region ?_
  refine WL.fieldR (off := 0) Try.underlying36 rfl rfl Try.sizeOf3 rfl rfl rfl ?_
  refine WL.loadR Try.isAgg3 rfl M (by first | ((repeat (first | with_reducible exact Has.here | with_reducible refine Has.there ?_)); done) | (repeat (first | exact Has.here | refine Has.there ?_))) rfl rfl ?_
  refine WL.call Try.call53 rfl (find_ok op _) rfl ?_
  rintro _ w ⟨rfl, m⟩
  replace M := M.call0 m; clear m
  obtain ⟨f, hf⟩ : ∃ f, fmOf op = f := ⟨_, rfl⟩
  rw [hf]
  unfold Fm.v
  refine WL.move rfl rfl ?_
  refine WL.extractL rfl rfl rfl ?_
  refine WL.extractL rfl rfl rfl ?_
  refine WL.alloc Try.zeroValue99 M rfl ?_
  intro g1_6 w M
  try simp only [Value.cells] at M
  try simp only [List.toList_toArray] at M
  refine WL.storeWA Try.sizeOf99 rfl rfl (by repeat (first | exact oneNil | refine oneCons rfl ?_)) rfl rfl M (by first | ((repeat (first | with_reducible exact Upd.here | with_reducible apply Upd.there)); done) | (repeat (first | exact Upd.here | apply Upd.there))) ?_
  intro w M
  refine WL.assign rfl rfl ?_
  refine WL.nil ?_
  refine WX.next ?_
  refine W.sub [(1, _), (3, _), (4, _)] (.cons rfl (.cons rfl (.cons rfl .nil))) ?_
  refine W.seq ?_
  refine W.seq ?_
  refine W.region ?_
  refine WL.move rfl rfl ?_
  refine WL.not rfl rfl ?_
  refine WL.nil ?_
  refine WX.next ?_
  refine W.sub [(1, _), (3, _), (13, _)] (.cons rfl (.cons rfl (.cons rfl .nil))) ?_
  refine W.cond rfl (fun c0 => ?_) (fun c0 => ?_)
  · (try simp only [Bool.not_eq_true'] at c0); (try simp only [Bool.not_eq_false'] at c0); (try simp only [decide_eq_true_eq] at c0); (try simp only [decide_eq_false_iff_not] at c0)
    refine W.seq ?_
    refine W.region ?_
    refine WL.assign rfl rfl ?_
    refine WL.nil ?_
    refine WX.next ?_
    refine W.sub [(2, _)] (.cons rfl .nil) ?_
    refine W.ret ?_
    refine WX.thenRet ?_
    refine WX.ret1 rfl rfl ?_
    exact ⟨by unfold chkC; rw [if_pos (by simpa using c0)], M.sel (by first | ((repeat (first | with_reducible exact Sel.refl | with_reducible exact Sel.nil | with_reducible exact Del.here | with_reducible apply Del.there | with_reducible apply Sel.cons | with_reducible apply Sel.drop)); done) | (repeat (first | exact Sel.refl | exact Sel.nil | exact Del.here | apply Del.there | apply Sel.cons | apply Sel.drop)))⟩
  · (try simp only [Bool.not_eq_true'] at c0); (try simp only [Bool.not_eq_false'] at c0); (try simp only [decide_eq_true_eq] at c0); (try simp only [decide_eq_false_iff_not] at c0)
    have hk : 0 ≤ kindC op := by simpa using c0
    obtain ⟨f1, f2, f3, f4⟩ := fm_kind hk
    rw [hf] at f1 f2 f3 f4
    have m1 := mostN_le f.ln
    have m2 := mostN_le f.cn
    have m3 := mostN_le f.rn
    refine W.skip ?_
    refine WX.next ?_
    refine W.seq ?_
    refine W.region ?_
    refine WL.fieldR (off := 1) Try.underlying99 rfl rfl Try.sizeOf97 rfl rfl rfl ?_
    refine WL.loadSub (ss := [_, _]) Try.isAgg97 Try.sizeOf97 rfl M (by first | ((repeat (first | with_reducible exact Has.here | with_reducible refine Has.there ?_)); done) | (repeat (first | exact Has.here | refine Has.there ?_))) rfl rfl rfl ?_
    refine WL.call Try.call55 rfl (most_ok f.la f.ln _) rfl ?_
    rintro _ w ⟨rfl, m⟩
    replace M := M.call0 m; clear m
    refine WL.assign rfl rfl ?_
    refine WL.nil ?_
    refine WX.next ?_
    refine W.sub [(1, _), (3, _), (5, _)] (.cons rfl (.cons rfl (.cons rfl .nil))) ?_
    refine W.joint (fun (_ : Unit) => [(1, .pointer (some ⟨g0_0, 0, none⟩)), (3, .pointer (some ⟨g1_6, 0, none⟩)), (5, .int .u64 (maxL (kindC op) : Int))]) (fun j w => Mem w0 w ((fun _ => [Asr.row g1_6 99 [.int .i64 f.op, .int .i64 (f.la : Int), .int .i64 (f.ln : Int), .int .i64 (f.ca : Int), .int .i64 (f.cn : Int), .int .i64 (f.ra : Int), .int .i64 (f.rn : Int), .int .u8 (f.one.toNat : Int)], Asr.row g0_0 36 [.int .i64 op, .int .u64 (lba : Int), .int .i64 ct, .int .i64 rm]]) j) ∧ (fun _ => True) j) ?_ ?_
    · refine W.seq ?_
      refine W.region ?_
      refine WL.fieldR (off := 1) Try.underlying99 rfl rfl Try.sizeOf97 rfl rfl rfl ?_
      refine WL.fieldRO (off := 1) Try.underlying97 rfl rfl Try.sizeOf3 rfl rfl rfl ?_
      refine WL.loadR Try.isAgg3 rfl M (by first | ((repeat (first | with_reducible exact Has.here | with_reducible refine Has.there ?_)); done) | (repeat (first | exact Has.here | refine Has.there ?_))) rfl rfl ?_
      refine WL.eqI rfl rfl rfl ?_
      refine WL.nil ?_
      refine WX.next ?_
      refine W.sub [(1, _), (3, _), (5, _), (20, _)] (.cons rfl (.cons rfl (.cons rfl (.cons rfl .nil)))) ?_
      refine W.ite rfl (fun c1 => ?_) (fun c1 => ?_)
      · refine W.region ?_
        refine WL.assign rfl rfl ?_
        refine WL.nil ?_
        rw [if_pos (by omega)] at f2
        rw [← f2]
        refine WX.join (()) (by (repeat' (first | exact envSub.nil | refine envSub.cons ?_ ?_)) <;> first | rfl | (refine congrArg some ?_; refine congrArg (Value.int _) ?_; first | omega | (dsimp only; omega)) | (simp; done) | (refine congrArg some ?_; dsimp only; congr 1; omega) | (simp; omega)) ⟨M.sel (by first | ((repeat (first | with_reducible exact Sel.refl | with_reducible exact Sel.nil | with_reducible exact Del.here | with_reducible apply Del.there | with_reducible apply Sel.cons | with_reducible apply Sel.drop)); done) | (repeat (first | exact Sel.refl | exact Sel.nil | exact Del.here | apply Del.there | apply Sel.cons | apply Sel.drop))), trivial⟩
      · refine W.skip ?_
        rw [if_neg (by omega)] at f2
        rw [← f2]
        refine WX.join (()) (by (repeat' (first | exact envSub.nil | refine envSub.cons ?_ ?_)) <;> first | rfl | (refine congrArg some ?_; refine congrArg (Value.int _) ?_; first | omega | (dsimp only; omega)) | (simp; done) | (refine congrArg some ?_; dsimp only; congr 1; omega) | (simp; omega)) ⟨M.sel (by first | ((repeat (first | with_reducible exact Sel.refl | with_reducible exact Sel.nil | with_reducible exact Del.here | with_reducible apply Del.there | with_reducible apply Sel.cons | with_reducible apply Sel.drop)); done) | (repeat (first | exact Sel.refl | exact Sel.nil | exact Del.here | apply Del.there | apply Sel.cons | apply Sel.drop))), trivial⟩
    clear M; rintro (_) w ⟨M, -⟩; dsimp only at M ⊢
    refine W.sub [(1, _), (3, _), (5, _)] (.cons rfl (.cons rfl (.cons rfl .nil))) ?_
    refine W.seq ?_
    refine W.seq ?_
    refine W.drawM ([Asr.row g1_6 99 [.int .i64 f.op, .int .i64 (f.la : Int), .int .i64 (f.ln : Int), .int .i64 (f.ca : Int), .int .i64 (f.cn : Int), .int .i64 (f.ra : Int), .int .i64 (f.rn : Int), .int .u8 (f.one.toNat : Int)], Asr.row g0_0 36 [.int .i64 op, .int .u64 (lba : Int), .int .i64 ct, .int .i64 rm]]) (by kernel_rfl) (fun j => [10, 11, 12, 13, 14, 15, 24, 25, 26, 27, 28, 29].contains j) M (by first | ((repeat (first | with_reducible exact Sel.refl | with_reducible exact Sel.nil | with_reducible exact Del.here | with_reducible apply Del.there | with_reducible apply Sel.cons | with_reducible apply Sel.drop)); done) | (repeat (first | exact Sel.refl | exact Sel.nil | exact Del.here | apply Del.there | apply Sel.cons | apply Sel.drop))) ?_
    clear M; intro M
    apply DG.pure_ [0, 2] 30 rfl (by kernel_rfl) (by kernel_rfl)
    · intro w
      refine WL.fieldR (off := 1) Try.underlying36 rfl rfl Try.sizeOf22 rfl rfl rfl ?_
      refine WL.move rfl rfl ?_
      exact Chain.end_ rfl
    apply DG.take [1, 3] 28 rfl (by kernel_rfl) (by kernel_rfl) (M.sel (by first | ((repeat (first | with_reducible exact Sel.refl | with_reducible exact Sel.nil | with_reducible exact Del.here | with_reducible apply Del.there | with_reducible apply Sel.cons | with_reducible apply Sel.drop)); done) | (repeat (first | exact Sel.refl | exact Sel.nil | exact Del.here | apply Del.there | apply Sel.cons | apply Sel.drop))))
    · intro w M
      refine WL.loadR Try.isAgg22 rfl M (by first | ((repeat (first | with_reducible exact Has.here | with_reducible refine Has.there ?_)); done) | (repeat (first | exact Has.here | refine Has.there ?_))) rfl rfl ?_
      refine WL.gtr rfl rfl rfl ?_
      exact Chain.end_ rfl
    refine DG.knowP (t := 24) rfl (fun c2 => ?_) (fun c2 => ?_)
    · apply DG.pure_ [4, 5] 26 rfl (by kernel_rfl) (by kernel_rfl)
      · intro w
        refine WL.move rfl rfl ?_
        refine WL.off rfl rfl rfl rfl ?_
        exact Chain.end_ rfl
      apply DG.pure_ [6, 7, 8] 23 rfl (by kernel_rfl) (by kernel_rfl)
      · intro w
        refine WL.off rfl rfl rfl rfl ?_
        refine WL.off rfl rfl rfl rfl ?_
        refine WL.pickT rfl rfl rfl ?_
        exact Chain.end_ rfl
      apply DG.pure_ [9] 22 rfl (by kernel_rfl) (by kernel_rfl)
      · intro w
        refine WL.move rfl rfl ?_
        exact Chain.end_ rfl
      apply DG.take [10, 11, 12, 13, 14] 17 rfl (by kernel_rfl) (by kernel_rfl) (M.sel (by first | ((repeat (first | with_reducible exact Sel.refl | with_reducible exact Sel.nil | with_reducible exact Del.here | with_reducible apply Del.there | with_reducible apply Sel.cons | with_reducible apply Sel.drop)); done) | (repeat (first | exact Sel.refl | exact Sel.nil | exact Del.here | apply Del.there | apply Sel.cons | apply Sel.drop))))
      · intro w M
        refine WL.off rfl rfl rfl rfl ?_
        refine WL.off rfl rfl rfl rfl ?_
        refine WL.off rfl rfl rfl rfl ?_
        refine WL.off rfl rfl rfl rfl ?_
        refine WL.off rfl rfl rfl rfl ?_
        exact Chain.end_ rfl
      refine DG.step 15 16 rfl (by kernel_rfl) ?_
      refine WL.off rfl rfl rfl rfl ?_
      refine DG.go (G := fun j => [10, 11, 12, 13, 14, 15, 24, 25, 26, 27, 28, 29].contains j) (i := 15) (f' := 16) (done := [0, 2, 1, 3, 4, 5, 6, 7, 8, 9, 10, 11, 12, 13, 14]) (fun _ => M.sel (by first | ((repeat (first | with_reducible exact Sel.refl | with_reducible exact Sel.nil | with_reducible exact Del.here | with_reducible apply Del.there | with_reducible apply Sel.cons | with_reducible apply Sel.drop)); done) | (repeat (first | exact Sel.refl | exact Sel.nil | exact Del.here | apply Del.there | apply Sel.cons | apply Sel.drop)))) ?_
      apply DG.pure_ [16, 17] 14 rfl (by kernel_rfl) (by kernel_rfl)
      · intro w
        refine WL.off rfl rfl rfl rfl ?_
        refine WL.pickT rfl rfl rfl ?_
        exact Chain.end_ rfl
      apply DG.pure_ [18, 19] 12 rfl (by kernel_rfl) (by kernel_rfl)
      · intro w
        refine WL.move rfl rfl ?_
        refine WL.off rfl rfl rfl rfl ?_
        exact Chain.end_ rfl
      apply DG.pure_ [20, 21, 22] 9 rfl (by kernel_rfl) (by kernel_rfl)
      · intro w
        refine WL.off rfl rfl rfl rfl ?_
        refine WL.off rfl rfl rfl rfl ?_
        refine WL.pickT rfl rfl rfl ?_
        exact Chain.end_ rfl
      apply DG.pure_ [23] 8 rfl (by kernel_rfl) (by kernel_rfl)
      · intro w
        refine WL.move rfl rfl ?_
        exact Chain.end_ rfl
      apply DG.take [24, 25, 26, 27, 28] 3 rfl (by kernel_rfl) (by kernel_rfl) (M.sel (by first | ((repeat (first | with_reducible exact Sel.refl | with_reducible exact Sel.nil | with_reducible exact Del.here | with_reducible apply Del.there | with_reducible apply Sel.cons | with_reducible apply Sel.drop)); done) | (repeat (first | exact Sel.refl | exact Sel.nil | exact Del.here | apply Del.there | apply Sel.cons | apply Sel.drop))))
      · intro w M
        refine WL.off rfl rfl rfl rfl ?_
        refine WL.off rfl rfl rfl rfl ?_
        refine WL.off rfl rfl rfl rfl ?_
        refine WL.off rfl rfl rfl rfl ?_
        refine WL.off rfl rfl rfl rfl ?_
        exact Chain.end_ rfl
      refine DG.step 29 2 rfl (by kernel_rfl) ?_
      refine WL.off rfl rfl rfl rfl ?_
      refine DG.go (G := fun j => [10, 11, 12, 13, 14, 15, 24, 25, 26, 27, 28, 29].contains j) (i := 29) (f' := 2) (done := [0, 2, 1, 3, 4, 5, 6, 7, 8, 9, 10, 11, 12, 13, 14, 15, 16, 17, 18, 19, 20, 21, 22, 23, 24, 25, 26, 27, 28]) (fun _ => M.sel (by first | ((repeat (first | with_reducible exact Sel.refl | with_reducible exact Sel.nil | with_reducible exact Del.here | with_reducible apply Del.there | with_reducible apply Sel.cons | with_reducible apply Sel.drop)); done) | (repeat (first | exact Sel.refl | exact Sel.nil | exact Del.here | apply Del.there | apply Sel.cons | apply Sel.drop)))) ?_
      apply DG.pure_ [30, 31] 0 rfl (by kernel_rfl) (by kernel_rfl)
      · intro w
        refine WL.off rfl rfl rfl rfl ?_
        refine WL.pickT rfl rfl rfl ?_
        exact Chain.end_ rfl
      refine DG.end_ (by kernel_rfl) ?_
      refine WX.next ?_
      refine W.sub [(52, _)] (.cons rfl .nil) ?_
      refine W.condT rfl ?_
      refine W.seq ?_
      refine W.region ?_
      refine WL.assign rfl rfl ?_
      refine WL.nil ?_
      refine WX.next ?_
      refine W.sub [(2, _)] (.cons rfl .nil) ?_
      refine W.ret ?_
      refine WX.thenRet ?_
      refine WX.ret1 rfl rfl ?_
      exact ⟨by unfold chkC; rw [if_neg (by dsimp only; omega), if_pos (by dsimp only; omega)], M.sel (by first | ((repeat (first | with_reducible exact Sel.refl | with_reducible exact Sel.nil | with_reducible exact Del.here | with_reducible apply Del.there | with_reducible apply Sel.cons | with_reducible apply Sel.drop)); done) | (repeat (first | exact Sel.refl | exact Sel.nil | exact Del.here | apply Del.there | apply Sel.cons | apply Sel.drop)))⟩
    · apply DG.pure_ [4, 5] 26 rfl (by kernel_rfl) (by kernel_rfl)
      · intro w
        refine WL.move rfl rfl ?_
        refine WL.on rfl rfl ?_
        refine WL.fieldR (off := 2) Try.underlying36 rfl rfl Try.sizeOf3 rfl rfl rfl ?_
        exact Chain.end_ rfl
      apply DG.take [6, 7, 8] 23 rfl (by kernel_rfl) (by kernel_rfl) (M.sel (by first | ((repeat (first | with_reducible exact Sel.refl | with_reducible exact Sel.nil | with_reducible exact Del.here | with_reducible apply Del.there | with_reducible apply Sel.cons | with_reducible apply Sel.drop)); done) | (repeat (first | exact Sel.refl | exact Sel.nil | exact Del.here | apply Del.there | apply Sel.cons | apply Sel.drop))))
      · intro w M
        refine WL.on rfl rfl ?_
        refine WL.loadR Try.isAgg3 rfl M (by first | ((repeat (first | with_reducible exact Has.here | with_reducible refine Has.there ?_)); done) | (repeat (first | exact Has.here | refine Has.there ?_))) rfl rfl ?_
        refine WL.on rfl rfl ?_
        refine WL.lss rfl rfl rfl ?_
        refine WL.pickF rfl rfl rfl ?_
        exact Chain.end_ rfl
      refine DG.knowP (t := 29) rfl (fun c3 => ?_) (fun c3 => ?_)
      · apply DG.pure_ [9] 22 rfl (by kernel_rfl) (by kernel_rfl)
        · intro w
          refine WL.move rfl rfl ?_
          exact Chain.end_ rfl
        apply DG.take [10, 11, 12, 13, 14] 17 rfl (by kernel_rfl) (by kernel_rfl) (M.sel (by first | ((repeat (first | with_reducible exact Sel.refl | with_reducible exact Sel.nil | with_reducible exact Del.here | with_reducible apply Del.there | with_reducible apply Sel.cons | with_reducible apply Sel.drop)); done) | (repeat (first | exact Sel.refl | exact Sel.nil | exact Del.here | apply Del.there | apply Sel.cons | apply Sel.drop))))
        · intro w M
          refine WL.off rfl rfl rfl rfl ?_
          refine WL.off rfl rfl rfl rfl ?_
          refine WL.off rfl rfl rfl rfl ?_
          refine WL.off rfl rfl rfl rfl ?_
          refine WL.off rfl rfl rfl rfl ?_
          exact Chain.end_ rfl
        refine DG.step 15 16 rfl (by kernel_rfl) ?_
        refine WL.off rfl rfl rfl rfl ?_
        refine DG.go (G := fun j => [10, 11, 12, 13, 14, 15, 24, 25, 26, 27, 28, 29].contains j) (i := 15) (f' := 16) (done := [0, 2, 1, 3, 4, 5, 6, 7, 8, 9, 10, 11, 12, 13, 14]) (fun _ => M.sel (by first | ((repeat (first | with_reducible exact Sel.refl | with_reducible exact Sel.nil | with_reducible exact Del.here | with_reducible apply Del.there | with_reducible apply Sel.cons | with_reducible apply Sel.drop)); done) | (repeat (first | exact Sel.refl | exact Sel.nil | exact Del.here | apply Del.there | apply Sel.cons | apply Sel.drop)))) ?_
        apply DG.pure_ [16, 17] 14 rfl (by kernel_rfl) (by kernel_rfl)
        · intro w
          refine WL.off rfl rfl rfl rfl ?_
          refine WL.pickT rfl rfl rfl ?_
          exact Chain.end_ rfl
        apply DG.pure_ [18, 19] 12 rfl (by kernel_rfl) (by kernel_rfl)
        · intro w
          refine WL.move rfl rfl ?_
          refine WL.off rfl rfl rfl rfl ?_
          exact Chain.end_ rfl
        apply DG.pure_ [20, 21, 22] 9 rfl (by kernel_rfl) (by kernel_rfl)
        · intro w
          refine WL.off rfl rfl rfl rfl ?_
          refine WL.off rfl rfl rfl rfl ?_
          refine WL.pickT rfl rfl rfl ?_
          exact Chain.end_ rfl
        apply DG.pure_ [23] 8 rfl (by kernel_rfl) (by kernel_rfl)
        · intro w
          refine WL.move rfl rfl ?_
          exact Chain.end_ rfl
        apply DG.take [24, 25, 26, 27, 28] 3 rfl (by kernel_rfl) (by kernel_rfl) (M.sel (by first | ((repeat (first | with_reducible exact Sel.refl | with_reducible exact Sel.nil | with_reducible exact Del.here | with_reducible apply Del.there | with_reducible apply Sel.cons | with_reducible apply Sel.drop)); done) | (repeat (first | exact Sel.refl | exact Sel.nil | exact Del.here | apply Del.there | apply Sel.cons | apply Sel.drop))))
        · intro w M
          refine WL.off rfl rfl rfl rfl ?_
          refine WL.off rfl rfl rfl rfl ?_
          refine WL.off rfl rfl rfl rfl ?_
          refine WL.off rfl rfl rfl rfl ?_
          refine WL.off rfl rfl rfl rfl ?_
          exact Chain.end_ rfl
        refine DG.step 29 2 rfl (by kernel_rfl) ?_
        refine WL.off rfl rfl rfl rfl ?_
        refine DG.go (G := fun j => [10, 11, 12, 13, 14, 15, 24, 25, 26, 27, 28, 29].contains j) (i := 29) (f' := 2) (done := [0, 2, 1, 3, 4, 5, 6, 7, 8, 9, 10, 11, 12, 13, 14, 15, 16, 17, 18, 19, 20, 21, 22, 23, 24, 25, 26, 27, 28]) (fun _ => M.sel (by first | ((repeat (first | with_reducible exact Sel.refl | with_reducible exact Sel.nil | with_reducible exact Del.here | with_reducible apply Del.there | with_reducible apply Sel.cons | with_reducible apply Sel.drop)); done) | (repeat (first | exact Sel.refl | exact Sel.nil | exact Del.here | apply Del.there | apply Sel.cons | apply Sel.drop)))) ?_
        apply DG.pure_ [30, 31] 0 rfl (by kernel_rfl) (by kernel_rfl)
        · intro w
          refine WL.off rfl rfl rfl rfl ?_
          refine WL.pickT rfl rfl rfl ?_
          exact Chain.end_ rfl
        refine DG.end_ (by kernel_rfl) ?_
        refine WX.next ?_
        refine W.sub [(52, _)] (.cons rfl .nil) ?_
        refine W.condT rfl ?_
        refine W.seq ?_
        refine W.region ?_
        refine WL.assign rfl rfl ?_
        refine WL.nil ?_
        refine WX.next ?_
        refine W.sub [(2, _)] (.cons rfl .nil) ?_
        refine W.ret ?_
        refine WX.thenRet ?_
        refine WX.ret1 rfl rfl ?_
        exact ⟨by unfold chkC; rw [if_neg (by dsimp only; omega), if_pos (by dsimp only; omega)], M.sel (by first | ((repeat (first | with_reducible exact Sel.refl | with_reducible exact Sel.nil | with_reducible exact Del.here | with_reducible apply Del.there | with_reducible apply Sel.cons | with_reducible apply Sel.drop)); done) | (repeat (first | exact Sel.refl | exact Sel.nil | exact Del.here | apply Del.there | apply Sel.cons | apply Sel.drop)))⟩
      · apply DG.pure_ [9] 22 rfl (by kernel_rfl) (by kernel_rfl)
        · intro w
          refine WL.move rfl rfl ?_
          exact Chain.end_ rfl
        apply DG.take [10, 11, 12, 13, 14] 17 rfl (by kernel_rfl) (by kernel_rfl) (M.sel (by first | ((repeat (first | with_reducible exact Sel.refl | with_reducible exact Sel.nil | with_reducible exact Del.here | with_reducible apply Del.there | with_reducible apply Sel.cons | with_reducible apply Sel.drop)); done) | (repeat (first | exact Sel.refl | exact Sel.nil | exact Del.here | apply Del.there | apply Sel.cons | apply Sel.drop))))
        · intro w M
          refine WL.on rfl rfl ?_
          refine WL.fieldR (off := 2) Try.underlying36 rfl rfl Try.sizeOf3 rfl rfl rfl ?_
          refine WL.on rfl rfl ?_
          refine WL.loadR Try.isAgg3 rfl M (by first | ((repeat (first | with_reducible exact Has.here | with_reducible refine Has.there ?_)); done) | (repeat (first | exact Has.here | refine Has.there ?_))) rfl rfl ?_
          refine WL.on rfl rfl ?_
          refine WL.conv Try.underlying3 Try.underlying22 rfl (by first | exact wU64 (by omega) | exact mU64 _ | rfl) rfl ?_
          refine WL.on rfl rfl ?_
          refine WL.fieldR (off := 3) Try.underlying99 rfl rfl Try.sizeOf97 rfl rfl rfl ?_
          refine WL.on rfl rfl ?_
          refine WL.loadSub (ss := [_, _]) Try.isAgg97 Try.sizeOf97 rfl M (by first | ((repeat (first | with_reducible exact Has.here | with_reducible refine Has.there ?_)); done) | (repeat (first | exact Has.here | refine Has.there ?_))) rfl rfl rfl ?_
          exact Chain.end_ rfl
        refine DG.step 15 16 rfl (by kernel_rfl) ?_
        refine WL.on rfl rfl ?_
        refine WL.call Try.call55 rfl (most_ok f.ca f.cn _) rfl ?_
        rintro _ w ⟨rfl, m⟩
        replace M := M.call0 m; clear m
        rw [f3]
        refine DG.go (G := fun j => [10, 11, 12, 13, 14, 15, 24, 25, 26, 27, 28, 29].contains j) (i := 15) (f' := 16) (done := [0, 2, 1, 3, 4, 5, 6, 7, 8, 9, 10, 11, 12, 13, 14]) (fun _ => M.sel (by first | ((repeat (first | with_reducible exact Sel.refl | with_reducible exact Sel.nil | with_reducible exact Del.here | with_reducible apply Del.there | with_reducible apply Sel.cons | with_reducible apply Sel.drop)); done) | (repeat (first | exact Sel.refl | exact Sel.nil | exact Del.here | apply Del.there | apply Sel.cons | apply Sel.drop)))) ?_
        apply DG.pure_ [16, 17] 14 rfl (by kernel_rfl) (by kernel_rfl)
        · intro w
          refine WL.on rfl rfl ?_
          refine WL.gtr rfl rfl rfl ?_
          refine WL.pickF rfl rfl rfl ?_
          exact Chain.end_ rfl
        refine DG.knowP (t := 38) rfl (fun c4 => ?_) (fun c4 => ?_)
        · apply DG.pure_ [18, 19] 12 rfl (by kernel_rfl) (by kernel_rfl)
          · intro w
            refine WL.move rfl rfl ?_
            refine WL.off rfl rfl rfl rfl ?_
            exact Chain.end_ rfl
          apply DG.pure_ [20, 21, 22] 9 rfl (by kernel_rfl) (by kernel_rfl)
          · intro w
            refine WL.off rfl rfl rfl rfl ?_
            refine WL.off rfl rfl rfl rfl ?_
            refine WL.pickT rfl rfl rfl ?_
            exact Chain.end_ rfl
          apply DG.pure_ [23] 8 rfl (by kernel_rfl) (by kernel_rfl)
          · intro w
            refine WL.move rfl rfl ?_
            exact Chain.end_ rfl
          apply DG.take [24, 25, 26, 27, 28] 3 rfl (by kernel_rfl) (by kernel_rfl) (M.sel (by first | ((repeat (first | with_reducible exact Sel.refl | with_reducible exact Sel.nil | with_reducible exact Del.here | with_reducible apply Del.there | with_reducible apply Sel.cons | with_reducible apply Sel.drop)); done) | (repeat (first | exact Sel.refl | exact Sel.nil | exact Del.here | apply Del.there | apply Sel.cons | apply Sel.drop))))
          · intro w M
            refine WL.off rfl rfl rfl rfl ?_
            refine WL.off rfl rfl rfl rfl ?_
            refine WL.off rfl rfl rfl rfl ?_
            refine WL.off rfl rfl rfl rfl ?_
            refine WL.off rfl rfl rfl rfl ?_
            exact Chain.end_ rfl
          refine DG.step 29 2 rfl (by kernel_rfl) ?_
          refine WL.off rfl rfl rfl rfl ?_
          refine DG.go (G := fun j => [10, 11, 12, 13, 14, 15, 24, 25, 26, 27, 28, 29].contains j) (i := 29) (f' := 2) (done := [0, 2, 1, 3, 4, 5, 6, 7, 8, 9, 10, 11, 12, 13, 14, 15, 16, 17, 18, 19, 20, 21, 22, 23, 24, 25, 26, 27, 28]) (fun _ => M.sel (by first | ((repeat (first | with_reducible exact Sel.refl | with_reducible exact Sel.nil | with_reducible exact Del.here | with_reducible apply Del.there | with_reducible apply Sel.cons | with_reducible apply Sel.drop)); done) | (repeat (first | exact Sel.refl | exact Sel.nil | exact Del.here | apply Del.there | apply Sel.cons | apply Sel.drop)))) ?_
          apply DG.pure_ [30, 31] 0 rfl (by kernel_rfl) (by kernel_rfl)
          · intro w
            refine WL.off rfl rfl rfl rfl ?_
            refine WL.pickT rfl rfl rfl ?_
            exact Chain.end_ rfl
          refine DG.end_ (by kernel_rfl) ?_
          refine WX.next ?_
          refine W.sub [(52, _)] (.cons rfl .nil) ?_
          refine W.condT rfl ?_
          refine W.seq ?_
          refine W.region ?_
          refine WL.assign rfl rfl ?_
          refine WL.nil ?_
          refine WX.next ?_
          refine W.sub [(2, _)] (.cons rfl .nil) ?_
          refine W.ret ?_
          refine WX.thenRet ?_
          refine WX.ret1 rfl rfl ?_
          exact ⟨by unfold chkC; rw [if_neg (by dsimp only; omega), if_pos (by dsimp only; omega)], M.sel (by first | ((repeat (first | with_reducible exact Sel.refl | with_reducible exact Sel.nil | with_reducible exact Del.here | with_reducible apply Del.there | with_reducible apply Sel.cons | with_reducible apply Sel.drop)); done) | (repeat (first | exact Sel.refl | exact Sel.nil | exact Del.here | apply Del.there | apply Sel.cons | apply Sel.drop)))⟩
        · apply DG.pure_ [18, 19] 12 rfl (by kernel_rfl) (by kernel_rfl)
          · intro w
            refine WL.move rfl rfl ?_
            refine WL.on rfl rfl ?_
            refine WL.fieldR (off := 3) Try.underlying36 rfl rfl Try.sizeOf3 rfl rfl rfl ?_
            exact Chain.end_ rfl
          apply DG.take [20, 21, 22] 9 rfl (by kernel_rfl) (by kernel_rfl) (M.sel (by first | ((repeat (first | with_reducible exact Sel.refl | with_reducible exact Sel.nil | with_reducible exact Del.here | with_reducible apply Del.there | with_reducible apply Sel.cons | with_reducible apply Sel.drop)); done) | (repeat (first | exact Sel.refl | exact Sel.nil | exact Del.here | apply Del.there | apply Sel.cons | apply Sel.drop))))
          · intro w M
            refine WL.on rfl rfl ?_
            refine WL.loadR Try.isAgg3 rfl M (by first | ((repeat (first | with_reducible exact Has.here | with_reducible refine Has.there ?_)); done) | (repeat (first | exact Has.here | refine Has.there ?_))) rfl rfl ?_
            refine WL.on rfl rfl ?_
            refine WL.lss rfl rfl rfl ?_
            refine WL.pickF rfl rfl rfl ?_
            exact Chain.end_ rfl
          refine DG.knowP (t := 43) rfl (fun c5 => ?_) (fun c5 => ?_)
          · apply DG.pure_ [23] 8 rfl (by kernel_rfl) (by kernel_rfl)
            · intro w
              refine WL.move rfl rfl ?_
              exact Chain.end_ rfl
            apply DG.take [24, 25, 26, 27, 28] 3 rfl (by kernel_rfl) (by kernel_rfl) (M.sel (by first | ((repeat (first | with_reducible exact Sel.refl | with_reducible exact Sel.nil | with_reducible exact Del.here | with_reducible apply Del.there | with_reducible apply Sel.cons | with_reducible apply Sel.drop)); done) | (repeat (first | exact Sel.refl | exact Sel.nil | exact Del.here | apply Del.there | apply Sel.cons | apply Sel.drop))))
            · intro w M
              refine WL.off rfl rfl rfl rfl ?_
              refine WL.off rfl rfl rfl rfl ?_
              refine WL.off rfl rfl rfl rfl ?_
              refine WL.off rfl rfl rfl rfl ?_
              refine WL.off rfl rfl rfl rfl ?_
              exact Chain.end_ rfl
            refine DG.step 29 2 rfl (by kernel_rfl) ?_
            refine WL.off rfl rfl rfl rfl ?_
            refine DG.go (G := fun j => [10, 11, 12, 13, 14, 15, 24, 25, 26, 27, 28, 29].contains j) (i := 29) (f' := 2) (done := [0, 2, 1, 3, 4, 5, 6, 7, 8, 9, 10, 11, 12, 13, 14, 15, 16, 17, 18, 19, 20, 21, 22, 23, 24, 25, 26, 27, 28]) (fun _ => M.sel (by first | ((repeat (first | with_reducible exact Sel.refl | with_reducible exact Sel.nil | with_reducible exact Del.here | with_reducible apply Del.there | with_reducible apply Sel.cons | with_reducible apply Sel.drop)); done) | (repeat (first | exact Sel.refl | exact Sel.nil | exact Del.here | apply Del.there | apply Sel.cons | apply Sel.drop)))) ?_
            apply DG.pure_ [30, 31] 0 rfl (by kernel_rfl) (by kernel_rfl)
            · intro w
              refine WL.off rfl rfl rfl rfl ?_
              refine WL.pickT rfl rfl rfl ?_
              exact Chain.end_ rfl
            refine DG.end_ (by kernel_rfl) ?_
            refine WX.next ?_
            refine W.sub [(52, _)] (.cons rfl .nil) ?_
            refine W.condT rfl ?_
            refine W.seq ?_
            refine W.region ?_
            refine WL.assign rfl rfl ?_
            refine WL.nil ?_
            refine WX.next ?_
            refine W.sub [(2, _)] (.cons rfl .nil) ?_
            refine W.ret ?_
            refine WX.thenRet ?_
            refine WX.ret1 rfl rfl ?_
            exact ⟨by unfold chkC; rw [if_neg (by dsimp only; omega), if_pos (by dsimp only; omega)], M.sel (by first | ((repeat (first | with_reducible exact Sel.refl | with_reducible exact Sel.nil | with_reducible exact Del.here | with_reducible apply Del.there | with_reducible apply Sel.cons | with_reducible apply Sel.drop)); done) | (repeat (first | exact Sel.refl | exact Sel.nil | exact Del.here | apply Del.there | apply Sel.cons | apply Sel.drop)))⟩
          · apply DG.pure_ [23] 8 rfl (by kernel_rfl) (by kernel_rfl)
            · intro w
              refine WL.move rfl rfl ?_
              exact Chain.end_ rfl
            apply DG.take [24, 25, 26, 27, 28] 3 rfl (by kernel_rfl) (by kernel_rfl) (M.sel (by first | ((repeat (first | with_reducible exact Sel.refl | with_reducible exact Sel.nil | with_reducible exact Del.here | with_reducible apply Del.there | with_reducible apply Sel.cons | with_reducible apply Sel.drop)); done) | (repeat (first | exact Sel.refl | exact Sel.nil | exact Del.here | apply Del.there | apply Sel.cons | apply Sel.drop))))
            · intro w M
              refine WL.on rfl rfl ?_
              refine WL.fieldR (off := 3) Try.underlying36 rfl rfl Try.sizeOf3 rfl rfl rfl ?_
              refine WL.on rfl rfl ?_
              refine WL.loadR Try.isAgg3 rfl M (by first | ((repeat (first | with_reducible exact Has.here | with_reducible refine Has.there ?_)); done) | (repeat (first | exact Has.here | refine Has.there ?_))) rfl rfl ?_
              refine WL.on rfl rfl ?_
              refine WL.conv Try.underlying3 Try.underlying22 rfl (by first | exact wU64 (by omega) | exact mU64 _ | rfl) rfl ?_
              refine WL.on rfl rfl ?_
              refine WL.fieldR (off := 5) Try.underlying99 rfl rfl Try.sizeOf97 rfl rfl rfl ?_
              refine WL.on rfl rfl ?_
              refine WL.loadSub (ss := [_, _]) Try.isAgg97 Try.sizeOf97 rfl M (by first | ((repeat (first | with_reducible exact Has.here | with_reducible refine Has.there ?_)); done) | (repeat (first | exact Has.here | refine Has.there ?_))) rfl rfl rfl ?_
              exact Chain.end_ rfl
            refine DG.step 29 2 rfl (by kernel_rfl) ?_
            refine WL.on rfl rfl ?_
            refine WL.call Try.call55 rfl (most_ok f.ra f.rn _) rfl ?_
            rintro _ w ⟨rfl, m⟩
            replace M := M.call0 m; clear m
            rw [f4]
            refine DG.go (G := fun j => [10, 11, 12, 13, 14, 15, 24, 25, 26, 27, 28, 29].contains j) (i := 29) (f' := 2) (done := [0, 2, 1, 3, 4, 5, 6, 7, 8, 9, 10, 11, 12, 13, 14, 15, 16, 17, 18, 19, 20, 21, 22, 23, 24, 25, 26, 27, 28]) (fun _ => M.sel (by first | ((repeat (first | with_reducible exact Sel.refl | with_reducible exact Sel.nil | with_reducible exact Del.here | with_reducible apply Del.there | with_reducible apply Sel.cons | with_reducible apply Sel.drop)); done) | (repeat (first | exact Sel.refl | exact Sel.nil | exact Del.here | apply Del.there | apply Sel.cons | apply Sel.drop)))) ?_
            apply DG.pure_ [30, 31] 0 rfl (by kernel_rfl) (by kernel_rfl)
            · intro w
              refine WL.on rfl rfl ?_
              refine WL.gtr rfl rfl rfl ?_
              refine WL.pickF rfl rfl rfl ?_
              exact Chain.end_ rfl
            refine DG.end_ (by kernel_rfl) ?_
            refine WX.next ?_
            refine W.sub [(52, _)] (.cons rfl .nil) ?_
            refine W.ite rfl (fun c6 => ?_) (fun c6 => ?_)
            · refine W.seq ?_
              refine W.region ?_
              refine WL.assign rfl rfl ?_
              refine WL.nil ?_
              refine WX.next ?_
              refine W.sub [(2, _)] (.cons rfl .nil) ?_
              refine W.ret ?_
              refine WX.thenRet ?_
              refine WX.ret1 rfl rfl ?_
              exact ⟨by unfold chkC; rw [if_neg (by dsimp only; omega), if_pos (by dsimp only; omega)], M.sel (by first | ((repeat (first | with_reducible exact Sel.refl | with_reducible exact Sel.nil | with_reducible exact Del.here | with_reducible apply Del.there | with_reducible apply Sel.cons | with_reducible apply Sel.drop)); done) | (repeat (first | exact Sel.refl | exact Sel.nil | exact Del.here | apply Del.there | apply Sel.cons | apply Sel.drop)))⟩
            · refine W.skip ?_
              refine WX.next ?_
              refine W.seq ?_
              refine W.region ?_
              refine WL.assign rfl rfl ?_
              refine WL.nil ?_
              refine WX.next ?_
              refine W.sub [(2, _)] (.cons rfl .nil) ?_
              refine W.ret ?_
              refine WX.ret1 rfl rfl ?_
              exact ⟨by unfold chkC; rw [if_neg (by dsimp only; omega), if_neg (by dsimp only; omega)], M.sel (by first | ((repeat (first | with_reducible exact Sel.refl | with_reducible exact Sel.nil | with_reducible exact Del.here | with_reducible apply Del.there | with_reducible apply Sel.cons | with_reducible apply Sel.drop)); done) | (repeat (first | exact Sel.refl | exact Sel.nil | exact Del.here | apply Del.there | apply Sel.cons | apply Sel.drop)))⟩
def setB (l : List UInt8) (a : Nat) (m : List UInt8) : List UInt8 := l.take a ++ m ++ l.drop (a + m.length)
theorem setB_length {l m : List UInt8} {a : Nat} (h : a + m.length ≤ l.length) : (setB l a m).length = l.length := by
  unfold setB
  simp
  omega
theorem ext_el {a b : List UInt8} (hl : a.length = b.length) (h : ∀ j, j < a.length → el a j = el b j) : a = b := by
  apply List.ext_getElem hl
  intro i h1 h2
  have := h i h1
  simpa [el, h1, h2] using this
theorem el_setB {l m : List UInt8} {a : Nat} (h : a + m.length ≤ l.length) (j : Nat) : el (setB l a m) j = if a ≤ j ∧ j < a + m.length then el m (j - a) else el l j := by
  have ht : (l.take a).length = a := by rw [List.length_take]; omega
  unfold setB el
  rw [List.append_assoc]
  by_cases h1 : j < a
  · rw [if_neg (by omega), List.getElem?_append_left (by omega), List.getElem?_take, if_pos h1]
  · rw [List.getElem?_append_right (by omega), ht]
    by_cases h2 : j < a + m.length
    · rw [if_pos ⟨by omega, h2⟩, List.getElem?_append_left (by omega)]
    · rw [if_neg (by omega), List.getElem?_append_right (by omega), List.getElem?_drop]
      congr 2
      omega
theorem el_nb {N n j : Nat} (h : j < n) : el (nb N n) j = UInt8.ofNat (N / 256 ^ (n - 1 - j) % 256) := by simp [el, nb, h, nbAt]
theorem u8_mod (m : Nat) : u8 ((m : Int) % 256) = UInt8.ofNat (m % 256) := by
  unfold u8
  congr 1
set_option maxHeartbeats 1000000 in
theorem cput_ok (x : OX) {m : Nat} (hm : m = x.l.length) (a n N : Nat) (ha : a + n ≤ x.l.length) (hn : n ≤ 8) (hN : N < 18446744073709551616) (hl : x.l.length ≤ 1000) (w0 w : World) (L L' : List Asr) (M : Mem w0 w L) (hd : Del x.O L L') :
    Fn Try.prog 64 [.slice x.A m x.cap, .agg #[.int .i64 (a : Int), .int .i64 (n : Int)], .int .u64 (N : Int)] w fun _ w' => Mem w0 w' (OX.O ⟨x.A, x.cap, setB x.l a (nb N n)⟩ :: L') := by
  subst hm
  have M1 := M.del hd
  replace M := M1
  obtain ⟨A, cap, l⟩ := x
  unfold OX.O at M ⊢
  dsimp only at M ha hl ⊢
  refine Fn.enter Try.func64 rfl Try.ntmps64 rfl ?_
  refine W.sub [(0, _), (1, _), (2, _)] (.cons rfl (.cons rfl (.cons rfl .nil))) ?_
  refine W.seq ?_
  refine W.region ?_
  refine WL.box rfl M rfl ?_
  intro g0_0 w M
  try simp only [Value.cells] at M
  try simp only [List.toList_toArray] at M
  refine WL.nil ?_
  refine WX.next ?_
  refine W.sub [(0, _), (2, _), (4, _)] (.cons rfl (.cons rfl (.cons rfl .nil))) ?_
  refine W.seq ?_
  refine W.region ?_
  refine WL.fieldR (off := 1) Try.underlying97 rfl rfl Try.sizeOf3 rfl rfl rfl ?_
  refine WL.loadR Try.isAgg3 rfl M (by first | ((repeat (first | with_reducible exact Has.here | with_reducible refine Has.there ?_)); done) | (repeat (first | exact Has.here | refine Has.there ?_))) rfl rfl ?_
  refine WL.move rfl rfl ?_
  refine WL.nil ?_
  refine WX.next ?_
  refine W.sub [(0, _), (2, _), (4, _), (8, _), (9, _)] (.cons rfl (.cons rfl (.cons rfl (.cons rfl (.cons rfl .nil))))) ?_
  refine W.block ?_
  refine W.loop (ι := Nat × List UInt8) (fun z => [(0, .slice A z.2.length cap), (2, .int .u64 (N : Int)), (4, .pointer (some ⟨g0_0, 0, none⟩)), (8, .int .i64 (n : Int)), (9, .int .i64 (z.1 : Int))]) (fun zz w => Mem w0 w ((fun z => Asr.own 5 1 A z.2.length cap (bs z.2) :: Asr.row g0_0 97 [.int .i64 (a : Int), .int .i64 (n : Int)] :: L') zz) ∧ (fun z => z.1 ≤ n ∧ z.2.length = l.length ∧ ∀ j, el z.2 j = if a + n - z.1 ≤ j ∧ j < a + n then UInt8.ofNat (N / 256 ^ (a + n - 1 - j) % 256) else el l j) zz) (fun z => n - z.1) ((0, l)) (by (repeat' (first | exact envSub.nil | refine envSub.cons ?_ ?_)) <;> first | rfl | (refine congrArg some ?_; refine congrArg (Value.int _) ?_; first | omega | (dsimp only; omega)) | (simp; done) | (refine congrArg some ?_; dsimp only; congr 1; omega) | (simp; omega)) ⟨M.sel (by first | ((repeat (first | with_reducible exact Sel.refl | with_reducible exact Sel.nil | with_reducible exact Del.here | with_reducible apply Del.there | with_reducible apply Sel.cons | with_reducible apply Sel.drop)); done) | (repeat (first | exact Sel.refl | exact Sel.nil | exact Del.here | apply Del.there | apply Sel.cons | apply Sel.drop))), ⟨Nat.zero_le _, rfl, fun j => by rw [if_neg (by dsimp only; omega)]⟩⟩ ?_
  clear M; rintro (⟨i, m⟩) w ⟨M, ⟨hi, hml, hm⟩⟩; dsimp only at M hi hml hm ⊢
  refine W.sub [(0, _), (2, _), (4, _), (8, _), (9, _)] (.cons rfl (.cons rfl (.cons rfl (.cons rfl (.cons rfl .nil))))) ?_
  refine W.seq ?_
  refine W.region ?_
  refine WL.lss rfl rfl rfl ?_
  refine WL.nil ?_
  refine WX.next ?_
  refine W.sub [(0, _), (2, _), (4, _), (8, _), (9, _), (10, _)] (.cons rfl (.cons rfl (.cons rfl (.cons rfl (.cons rfl (.cons rfl .nil)))))) ?_
  refine W.seq ?_
  refine W.ite rfl (fun c0 => ?_) (fun c0 => ?_)
  · have hin : i < n := by omega
    refine W.skip ?_
    refine WX.next ?_
    refine W.seq ?_
    refine W.block ?_
    refine W.seq ?_
    refine W.region ?_
    refine WL.move rfl rfl ?_
    refine WL.assign rfl rfl ?_
    refine WL.nil ?_
    refine WX.next ?_
    refine W.sub [(0, _), (2, _), (4, _), (6, _), (8, _), (9, _)] (.cons rfl (.cons rfl (.cons rfl (.cons rfl (.cons rfl (.cons rfl .nil)))))) ?_
    refine W.drawM (Asr.own 5 1 A m.length cap (bs m) :: Asr.row g0_0 97 [.int .i64 (a : Int), .int .i64 (n : Int)] :: L') (by kernel_rfl) (fun j => [2, 4].contains j) M (by first | ((repeat (first | with_reducible exact Sel.refl | with_reducible exact Sel.nil | with_reducible exact Del.here | with_reducible apply Del.there | with_reducible apply Sel.cons | with_reducible apply Sel.drop)); done) | (repeat (first | exact Sel.refl | exact Sel.nil | exact Del.here | apply Del.there | apply Sel.cons | apply Sel.drop))) ?_
    clear M; intro M
    apply DG.pure_ [0, 1, 3, 7, 9, 10, 11, 12, 13] 7 rfl (by kernel_rfl) (by kernel_rfl)
    · intro w
      refine WL.move rfl rfl ?_
      refine WL.fieldR (off := 0) Try.underlying97 rfl rfl Try.sizeOf3 rfl rfl rfl ?_
      refine WL.fieldR (off := 1) Try.underlying97 rfl rfl Try.sizeOf3 rfl rfl rfl ?_
      refine WL.move rfl rfl ?_
      refine WL.move rfl rfl ?_
      refine WL.move rfl rfl ?_
      refine WL.mul rfl rfl (by first | exact wI64 (by omega) | rfl) rfl ?_
      refine WL.shr rfl rfl (by omega) (by show _ ≤ (64 : Int); omega) (show (N : Int) / 2 ^ (8 * (i : Int)).toNat = ((N / 256 ^ i : Nat) : Int) by rw [show (8 * (i : Int)).toNat = 8 * i by omega]; exact shr8 N i) rfl ?_
      refine WL.conv Try.underlying22 Try.underlying5 rfl (mU8 _) rfl ?_
      exact Chain.end_ rfl
    apply DG.take [2, 4, 5, 6, 8, 14] 1 rfl (by kernel_rfl) (by kernel_rfl) (M.sel (by first | ((repeat (first | with_reducible exact Sel.refl | with_reducible exact Sel.nil | with_reducible exact Del.here | with_reducible apply Del.there | with_reducible apply Sel.cons | with_reducible apply Sel.drop)); done) | (repeat (first | exact Sel.refl | exact Sel.nil | exact Del.here | apply Del.there | apply Sel.cons | apply Sel.drop))))
    · intro w M
      refine WL.loadR Try.isAgg3 rfl M (by first | ((repeat (first | with_reducible exact Has.here | with_reducible refine Has.there ?_)); done) | (repeat (first | exact Has.here | refine Has.there ?_))) rfl rfl ?_
      refine WL.loadR Try.isAgg3 rfl M (by first | ((repeat (first | with_reducible exact Has.here | with_reducible refine Has.there ?_)); done) | (repeat (first | exact Has.here | refine Has.there ?_))) rfl rfl ?_
      refine WL.add rfl rfl (by first | exact wI64 (by omega) | rfl) rfl ?_
      refine WL.sub' rfl rfl (by first | exact wI64 (by omega) | rfl) rfl ?_
      refine WL.sub' rfl rfl (by first | exact wI64 (by omega) | rfl) rfl ?_
      refine WL.idxA Try.underlying25 Try.sizeOf5 rfl rfl (RdB.isSome (by first | first | with_reducible assumption | with_reducible exact RdB.mem (by with_reducible assumption) M | exact M.rdB (by first | ((repeat (first | with_reducible exact Has.here | with_reducible refine Has.there ?_)); done) | (repeat (first | exact Has.here | refine Has.there ?_))) | exact RdH.at (by assumption) (M.sel (by first | ((repeat (first | with_reducible exact Sel.refl | with_reducible exact Sel.nil | with_reducible exact Del.here | with_reducible apply Del.there | with_reducible apply Sel.cons | with_reducible apply Sel.drop)); done) | (repeat (first | exact Sel.refl | exact Sel.nil | exact Del.here | apply Del.there | apply Sel.cons | apply Sel.drop)))) | exact M.rdLit' (by first | ((repeat (first | with_reducible exact Has.here | with_reducible refine Has.there ?_)); done) | (repeat (first | exact Has.here | refine Has.there ?_))) | exact M.rdLent (by first | ((repeat (first | with_reducible exact Has.here | with_reducible refine Has.there ?_)); done) | (repeat (first | exact Has.here | refine Has.there ?_))) | exact RdB.nil _ _ | exact RdB.sub (by first | with_reducible assumption | with_reducible exact RdB.mem (by with_reducible assumption) M | exact M.rdB (by first | ((repeat (first | with_reducible exact Has.here | with_reducible refine Has.there ?_)); done) | (repeat (first | exact Has.here | refine Has.there ?_))) | exact RdH.at (by assumption) (M.sel (by first | ((repeat (first | with_reducible exact Sel.refl | with_reducible exact Sel.nil | with_reducible exact Del.here | with_reducible apply Del.there | with_reducible apply Sel.cons | with_reducible apply Sel.drop)); done) | (repeat (first | exact Sel.refl | exact Sel.nil | exact Del.here | apply Del.there | apply Sel.cons | apply Sel.drop)))) | exact M.rdLit' (by first | ((repeat (first | with_reducible exact Has.here | with_reducible refine Has.there ?_)); done) | (repeat (first | exact Has.here | refine Has.there ?_))) | exact M.rdLent (by first | ((repeat (first | with_reducible exact Has.here | with_reducible refine Has.there ?_)); done) | (repeat (first | exact Has.here | refine Has.there ?_))) | exact RdB.nil _ _) (by omega) (by omega) | exact RdB.pre' (by first | with_reducible assumption | with_reducible exact RdB.mem (by with_reducible assumption) M | exact M.rdB (by first | ((repeat (first | with_reducible exact Has.here | with_reducible refine Has.there ?_)); done) | (repeat (first | exact Has.here | refine Has.there ?_))) | exact RdH.at (by assumption) (M.sel (by first | ((repeat (first | with_reducible exact Sel.refl | with_reducible exact Sel.nil | with_reducible exact Del.here | with_reducible apply Del.there | with_reducible apply Sel.cons | with_reducible apply Sel.drop)); done) | (repeat (first | exact Sel.refl | exact Sel.nil | exact Del.here | apply Del.there | apply Sel.cons | apply Sel.drop)))) | exact M.rdLit' (by first | ((repeat (first | with_reducible exact Has.here | with_reducible refine Has.there ?_)); done) | (repeat (first | exact Has.here | refine Has.there ?_))) | exact M.rdLent (by first | ((repeat (first | with_reducible exact Has.here | with_reducible refine Has.there ?_)); done) | (repeat (first | exact Has.here | refine Has.there ?_))) | exact RdB.nil _ _) (by omega) | exact RdB.suf (by first | with_reducible assumption | with_reducible exact RdB.mem (by with_reducible assumption) M | exact M.rdB (by first | ((repeat (first | with_reducible exact Has.here | with_reducible refine Has.there ?_)); done) | (repeat (first | exact Has.here | refine Has.there ?_))) | exact RdH.at (by assumption) (M.sel (by first | ((repeat (first | with_reducible exact Sel.refl | with_reducible exact Sel.nil | with_reducible exact Del.here | with_reducible apply Del.there | with_reducible apply Sel.cons | with_reducible apply Sel.drop)); done) | (repeat (first | exact Sel.refl | exact Sel.nil | exact Del.here | apply Del.there | apply Sel.cons | apply Sel.drop)))) | exact M.rdLit' (by first | ((repeat (first | with_reducible exact Has.here | with_reducible refine Has.there ?_)); done) | (repeat (first | exact Has.here | refine Has.there ?_))) | exact M.rdLent (by first | ((repeat (first | with_reducible exact Has.here | with_reducible refine Has.there ?_)); done) | (repeat (first | exact Has.here | refine Has.there ?_))) | exact RdB.nil _ _) (by omega)) (by omega)) (by omega) (by omega) (show (a : Int) + (n : Int) - 1 - (i : Int) = ((a + n - 1 - i : Nat) : Int) by omega) rfl ?_
      exact Chain.end_ rfl
    refine DG.step 15 0 rfl (by kernel_rfl) ?_
    refine WL.storeB Try.sizeOf5 rfl rfl M (by first | ((repeat (first | with_reducible exact Has.here | with_reducible refine Has.there ?_)); done) | (repeat (first | exact Has.here | refine Has.there ?_))) (by omega) (by omega) (by omega) (by first | ((repeat (first | with_reducible exact Upd.here | with_reducible apply Upd.there)); done) | (repeat (first | exact Upd.here | apply Upd.there))) ?_
    intro w M
    refine DG.go (G := fun j => [2, 4].contains j) (i := 15) (f' := 0) (done := [0, 1, 3, 7, 9, 10, 11, 12, 13, 2, 4, 5, 6, 8, 14]) (fun h => by cases h) ?_
    refine DG.end_ (by kernel_rfl) ?_
    refine WX.blockNormal ?_
    refine WX.next ?_
    refine W.sub [(0, _), (2, _), (4, _), (8, _), (9, _)] (.cons rfl (.cons rfl (.cons rfl (.cons rfl (.cons rfl .nil))))) ?_
    refine W.region ?_
    refine WL.add rfl rfl (by first | exact wI64 (by omega) | rfl) rfl ?_
    refine WL.move rfl rfl ?_
    refine WL.nil ?_
    skip
    have q : ∀ j, el (m.set (a + n - 1 - i) (u8 (((N / 256 ^ i : Nat) : Int) % 256))) j = if a + n - (i + 1) ≤ j ∧ j < a + n then UInt8.ofNat (N / 256 ^ (a + n - 1 - j) % 256) else el l j := by
      intro j
      rw [el_set _ _ _ _ (by omega), hm j, u8_mod]
      by_cases e : a + n - 1 - i = j
      · rw [if_pos e, if_pos (by omega), show a + n - 1 - j = i by omega]
      · rw [if_neg e]
        by_cases h2 : a + n - i ≤ j ∧ j < a + n
        · rw [if_pos h2, if_pos (by omega)]
        · rw [if_neg h2, if_neg (by omega)]
    refine WX.round ((i + 1, m.set (a + n - 1 - i) (u8 (((N / 256 ^ i : Nat) : Int) % 256)))) (.cons (by dsimp only; rw [List.length_set]; rfl) (.cons rfl (.cons rfl (.cons rfl (.cons (by refine congrArg some (congrArg (Value.int _) ?_); dsimp only; omega) .nil))))) ⟨M.sel (by first | ((repeat (first | with_reducible exact Sel.refl | with_reducible exact Sel.nil | with_reducible exact Del.here | with_reducible apply Del.there | with_reducible apply Sel.cons | with_reducible apply Sel.drop)); done) | (repeat (first | exact Sel.refl | exact Sel.nil | exact Del.here | apply Del.there | apply Sel.cons | apply Sel.drop))), ⟨by dsimp only; omega, by rw [List.length_set]; exact hml, q⟩⟩ (by first | omega | (dsimp only; omega))
  · refine W.exit ?_
    refine WX.thenExit ?_
    refine WX.thenExit ?_
    refine WX.blockHere ?_
    refine WX.end0 rfl ?_
    obtain rfl : i = n := by omega
    have hme : m = setB l a (nb N i) := by
      have hnl := nb_length N i
      refine ext_el (by rw [setB_length (by omega)]; exact hml) (fun j hj => ?_)
      rw [hm j, el_setB (by omega), hnl]
      by_cases h1 : a ≤ j ∧ j < a + i
      · rw [if_pos (by omega), if_pos h1, el_nb (by omega)]
        congr 4
        omega
      · rw [if_neg (by omega), if_neg h1]
    rw [← hme]
    exact M.sel (by first | ((repeat (first | with_reducible exact Sel.refl | with_reducible exact Sel.nil | with_reducible exact Del.here | with_reducible apply Del.there | with_reducible apply Sel.cons | with_reducible apply Sel.drop)); done) | (repeat (first | exact Sel.refl | exact Sel.nil | exact Del.here | apply Del.there | apply Sel.cons | apply Sel.drop)))
theorem fm_fits (op : Int) : (fmOf op).la + (fmOf op).ln ≤ 16 ∧ (fmOf op).ln ≤ 8 ∧ (fmOf op).ca + (fmOf op).cn ≤ 16 ∧ (fmOf op).cn ≤ 8 ∧ (fmOf op).ra + (fmOf op).rn ≤ 16 ∧ (fmOf op).rn ≤ 8 := by
  unfold fmOf
  split
  · (first | decide | (dsimp only; omega))
  · split
    · (first | decide | (dsimp only; omega))
    · split
      · (first | decide | (dsimp only; omega))
      · split
        · (first | decide | (dsimp only; omega))
        · split
          · (first | decide | (dsimp only; omega))
          · (first | decide | (dsimp only; omega))
theorem kind_le {op : Int} (h : 0 ≤ kindC op) : 0 ≤ op ∧ op ≤ 158 := by
  unfold kindC at h
  split at h
  · omega
  · split at h
    · omega
    · split at h
      · omega
      · split at h
        · omega
        · split at h
          · omega
          · exact absurd h (by decide)
/-- A command's bytes. -/
def prB (c : CmX) : List UInt8 := setB (setB (setB ([u8 c.op, (fmOf c.op).one] ++ List.replicate 14 0) (fmOf c.op).la (nb c.lba (fmOf c.op).ln)) (fmOf c.op).ca (nb c.count.toNat (fmOf c.op).cn)) (fmOf c.op).ra (nb c.room.toNat (fmOf c.op).rn)
theorem prB_length (c : CmX) : (prB c).length = 16 := by
  obtain ⟨h1, h2, h3, h4, h5, h6⟩ := fm_fits c.op
  unfold prB
  rw [setB_length, setB_length, setB_length]
  · simp
  · rw [nb_length]
    simpa using h1
  · rw [nb_length, setB_length]
    · simpa using h3
    · rw [nb_length]
      simpa using h1
  · rw [nb_length, setB_length, setB_length]
    · simpa using h5
    · rw [nb_length]
      simpa using h1
    · rw [nb_length, setB_length]
      · simpa using h3
      · rw [nb_length]
        simpa using h1
theorem chkC_zero {c : CmX} (h : chkC c = 0) : 0 ≤ kindC c.op ∧ c.lba ≤ maxL (kindC c.op) ∧ 0 ≤ c.count ∧ c.count ≤ maxCt (kindC c.op) ∧ 0 ≤ c.room ∧ c.room ≤ maxRm (kindC c.op) := by
  unfold chkC at h
  split at h
  · cases h
  · split at h
    · cases h
    · omega
theorem maxCt_le (k : Int) : maxCt k ≤ 2147483647 := by
  unfold maxCt
  split
  · decide
  · split <;> decide
theorem maxRm_le (k : Int) : maxRm k ≤ 2147483647 := by
  unfold maxRm
  split
  · decide
  · split <;> decide
set_option maxRecDepth 10000 in
set_option maxHeartbeats 1000000 in
theorem cPrint_ok (c : CmX) (hc : c.inn) (w0 : World) : Fn Try.prog 56 [c.v] w0 fun v w' => ∃ x : OX, v = .tuple #[x.v, .int .i64 (chkC c)] ∧ Mem w0 w' [x.O] ∧ x.l = if chkC c = 0 then prB c else [] := by
  have M := Mem.refl w0
  obtain ⟨w, hw⟩ : ∃ w, w = w0 := ⟨w0, rfl⟩
  obtain ⟨op, lba, ct, rm⟩ := c
  have hc2 := hc
  obtain ⟨b1, b2, b3⟩ := hc2
  unfold CmX.v
  dsimp only at b1 b2 b3 ⊢
  refine Fn.enter Try.func56 rfl Try.ntmps56 rfl ?_
  refine W.sub [(0, _)] (.cons rfl .nil) ?_
  refine W.seq ?_
  refine W.region ?_
  refine WL.box rfl M rfl ?_
  intro g0_0 w M
  try simp only [Value.cells] at M
  try simp only [List.toList_toArray] at M
  refine WL.assign rfl rfl ?_
  refine WL.assign rfl rfl ?_
  refine WL.nil ?_
  refine WX.next ?_
  refine W.sub [(1, _)] (.cons rfl .nil) ?_
  refine W.seq ?_
  refine W.seq ?_
  refine W.region ?_
  refine WL.loadW Try.isAgg36 Try.sizeOf36 rfl M (by first | ((repeat (first | with_reducible exact Has.here | with_reducible refine Has.there ?_)); done) | (repeat (first | exact Has.here | refine Has.there ?_))) rfl rfl ?_
  refine WL.call Try.call63 rfl (cCheck_ok ⟨op, lba, ct, rm⟩ hc _) rfl ?_
  rintro _ w ⟨rfl, m⟩
  replace M := M.call0 m; clear m
  refine WL.assign rfl rfl ?_
  refine WL.nil ?_
  refine WX.next ?_
  refine W.sub [(1, _), (4, _)] (.cons rfl (.cons rfl .nil)) ?_
  refine W.seq ?_
  refine W.region ?_
  refine WL.move rfl rfl ?_
  refine WL.neI rfl rfl rfl ?_
  refine WL.nil ?_
  refine WX.next ?_
  refine W.sub [(1, _), (4, _), (11, _)] (.cons rfl (.cons rfl (.cons rfl .nil))) ?_
  refine W.ite rfl (fun c0 => ?_) (fun c0 => ?_)
  · refine W.seq ?_
    refine W.region ?_
    refine WL.move rfl rfl ?_
    refine WL.assign rfl rfl ?_
    refine WL.assign rfl rfl ?_
    refine WL.nil ?_
    refine WX.next ?_
    refine W.sub [(2, _), (3, _)] (.cons rfl (.cons rfl .nil)) ?_
    refine W.ret ?_
    refine WX.thenRet ?_
    refine WX.ret2 rfl rfl rfl ?_
    exact ⟨⟨none, 0, []⟩, rfl, (M.nilOwn 5 1).sel (by first | ((repeat (first | with_reducible exact Sel.refl | with_reducible exact Sel.nil | with_reducible exact Del.here | with_reducible apply Del.there | with_reducible apply Sel.cons | with_reducible apply Sel.drop)); done) | (repeat (first | exact Sel.refl | exact Sel.nil | exact Del.here | apply Del.there | apply Sel.cons | apply Sel.drop))), by rw [if_neg c0]⟩
  · have hc0 : chkC ⟨op, lba, ct, rm⟩ = 0 := Classical.not_not.1 c0
    obtain ⟨z1, z2, z3, z4, z5, z6⟩ := chkC_zero hc0
    have z7 := kind_le z1
    dsimp only at z1 z2 z3 z4 z5 z6 z7
    refine W.skip ?_
    refine WX.next ?_
    refine W.seq ?_
    refine W.region ?_
    refine WL.fieldR (off := 0) Try.underlying36 rfl rfl Try.sizeOf3 rfl rfl rfl ?_
    refine WL.loadR Try.isAgg3 rfl M (by first | ((repeat (first | with_reducible exact Has.here | with_reducible refine Has.there ?_)); done) | (repeat (first | exact Has.here | refine Has.there ?_))) rfl rfl ?_
    refine WL.call Try.call53 rfl (find_ok op _) rfl ?_
    rintro _ w ⟨rfl, m⟩
    replace M := M.call0 m; clear m
    obtain ⟨h1, h2, h3, h4, h5, h6⟩ := fm_fits op
    have hpr : prB ⟨op, lba, ct, rm⟩ = setB (setB (setB ([u8 op, (fmOf op).one] ++ List.replicate 14 0) (fmOf op).la (nb lba (fmOf op).ln)) (fmOf op).ca (nb ct.toNat (fmOf op).cn)) (fmOf op).ra (nb rm.toNat (fmOf op).rn) := rfl
    obtain ⟨f, hf⟩ : ∃ f, fmOf op = f := ⟨_, rfl⟩
    rw [hf] at h1 h2 h3 h4 h5 h6 hpr ⊢
    unfold Fm.v
    refine WL.move rfl rfl ?_
    refine WL.extractL rfl rfl rfl ?_
    refine WL.extractL rfl rfl rfl ?_
    refine WL.alloc Try.zeroValue99 M rfl ?_
    intro g4_6 w M
    try simp only [Value.cells] at M
    try simp only [List.toList_toArray] at M
    refine WL.storeWA Try.sizeOf99 rfl rfl (by repeat (first | exact oneNil | refine oneCons rfl ?_)) rfl rfl M (by first | ((repeat (first | with_reducible exact Upd.here | with_reducible apply Upd.there)); done) | (repeat (first | exact Upd.here | apply Upd.there))) ?_
    intro w M
    refine WL.assign rfl rfl ?_
    refine WL.nil ?_
    refine WX.next ?_
    refine W.sub [(1, _), (5, _)] (.cons rfl (.cons rfl .nil)) ?_
    refine W.seq ?_
    refine W.region ?_
    refine WL.makeB (k := 16) rfl Try.elem5 Try.zeroValue5 M rfl rfl (by decide) rfl ?_
    intro g5_0 w M
    obtain ⟨Z, hZ⟩ : ∃ Z, Z = List.replicate 16 (0 : UInt8) := ⟨_, rfl⟩
    have hZl : Z.length = 16 := by rw [hZ]; rfl
    rw [← hZ] at M
    have hZl2 : (Z.set 0 (u8 op)).length = 16 := by rw [List.length_set, hZl]
    have hone := UInt8.toNat_lt f.one
    refine WL.assign rfl rfl ?_
    refine WL.nil ?_
    refine WX.next ?_
    refine W.sub [(1, _), (5, _), (7, _)] (.cons rfl (.cons rfl (.cons rfl .nil))) ?_
    refine W.seq ?_
    refine W.drawM ([Asr.own 5 1 (some ⟨g5_0, 0, none⟩) Z.length 16 (bs Z), Asr.row g4_6 99 [.int .i64 f.op, .int .i64 (f.la : Int), .int .i64 (f.ln : Int), .int .i64 (f.ca : Int), .int .i64 (f.cn : Int), .int .i64 (f.ra : Int), .int .i64 (f.rn : Int), .int .u8 (f.one.toNat : Int)], Asr.row g0_0 36 [.int .i64 op, .int .u64 (lba : Int), .int .i64 ct, .int .i64 rm]]) (by kernel_rfl) (fun _ => false) M (by first | ((repeat (first | with_reducible exact Sel.refl | with_reducible exact Sel.nil | with_reducible exact Del.here | with_reducible apply Del.there | with_reducible apply Sel.cons | with_reducible apply Sel.drop)); done) | (repeat (first | exact Sel.refl | exact Sel.nil | exact Del.here | apply Del.there | apply Sel.cons | apply Sel.drop))) ?_
    clear M; intro M
    apply DG.pure_ [0, 1, 2, 5] 7 rfl (by kernel_rfl) (by kernel_rfl)
    · intro w
      refine WL.move rfl rfl ?_
      refine WL.move rfl rfl ?_
      refine WL.fieldR (off := 0) Try.underlying36 rfl rfl Try.sizeOf3 rfl rfl rfl ?_
      refine WL.fieldR (off := 7) Try.underlying99 rfl rfl Try.sizeOf5 rfl rfl rfl ?_
      exact Chain.end_ rfl
    refine DG.steps [3, 6] 6 rfl (by kernel_rfl) rfl ?_
    intro i hi; simp only [List.mem_cons, List.not_mem_nil, or_false] at hi; rcases hi with rfl | rfl
    · refine WL.loadR Try.isAgg3 rfl M (by first | ((repeat (first | with_reducible exact Has.here | with_reducible refine Has.there ?_)); done) | (repeat (first | exact Has.here | refine Has.there ?_))) rfl rfl ?_
      refine DG.go (G := fun _ => false) (i := 3) (f' := 6) (done := [0, 1, 2, 5]) (fun h => by cases h) ?_
      apply DG.pure_ [4, 7] 4 rfl (by kernel_rfl) (by kernel_rfl)
      · intro w
        refine WL.conv Try.underlying3 Try.underlying5 rfl (by first | exact wU8 (by omega) | exact mU8 _ | rfl) rfl ?_
        refine WL.idxA (jn := 0) Try.underlying25 Try.sizeOf5 rfl rfl rfl (by omega) (by omega) (by first | exact rfl | exact (Int.toNat_of_nonneg (by omega)).symm) rfl ?_
        exact Chain.end_ rfl
      refine DG.steps [6, 8] 3 rfl (by kernel_rfl) rfl ?_
      intro i hi; simp only [List.mem_cons, List.not_mem_nil, or_false] at hi; rcases hi with rfl | rfl
      · refine WL.loadR Try.isAgg5 rfl M (by first | ((repeat (first | with_reducible exact Has.here | with_reducible refine Has.there ?_)); done) | (repeat (first | exact Has.here | refine Has.there ?_))) rfl rfl ?_
        refine DG.go (G := fun _ => false) (i := 6) (f' := 3) (done := [0, 1, 2, 5, 3, 4, 7]) (fun h => by cases h) ?_
        refine DG.step 8 2 rfl (by kernel_rfl) ?_
        refine WL.storeB Try.sizeOf5 rfl rfl M (by first | ((repeat (first | with_reducible exact Has.here | with_reducible refine Has.there ?_)); done) | (repeat (first | exact Has.here | refine Has.there ?_))) (by omega) (by omega) (by omega) (by first | ((repeat (first | with_reducible exact Upd.here | with_reducible apply Upd.there)); done) | (repeat (first | exact Upd.here | apply Upd.there))) ?_
        intro w M
        refine DG.go (G := fun _ => false) (i := 8) (f' := 2) (done := [0, 1, 2, 5, 3, 4, 7, 6]) (fun h => by cases h) ?_
        apply DG.pure_ [9] 1 rfl (by kernel_rfl) (by kernel_rfl)
        · intro w
          refine WL.idxA (jn := 1) Try.underlying25 Try.sizeOf5 rfl rfl rfl (by omega) (by omega) (by first | exact rfl | exact (Int.toNat_of_nonneg (by omega)).symm) rfl ?_
          exact Chain.end_ rfl
        refine DG.step 10 0 rfl (by kernel_rfl) ?_
        refine WL.storeB Try.sizeOf5 rfl rfl M (by first | ((repeat (first | with_reducible exact Has.here | with_reducible refine Has.there ?_)); done) | (repeat (first | exact Has.here | refine Has.there ?_))) (by omega) (by omega) (by omega) (by first | ((repeat (first | with_reducible exact Upd.here | with_reducible apply Upd.there)); done) | (repeat (first | exact Upd.here | apply Upd.there))) ?_
        intro w M
        refine DG.go (G := fun _ => false) (i := 10) (f' := 0) (done := [0, 1, 2, 5, 3, 4, 7, 6, 8, 9]) (fun h => by cases h) ?_
        refine DG.end_ (by kernel_rfl) ?_
        refine WX.next ?_
        refine W.sub [(1, _), (5, _), (7, _)] (.cons rfl (.cons rfl (.cons rfl .nil))) ?_
        refine W.seq ?_
        have e0 : (Z.set 0 (u8 op)).set 1 (u8 (f.one.toNat : Int)) = [u8 op, f.one] ++ List.replicate 14 0 := by rw [u8_nat, hZ]; rfl
        rw [e0] at M
        obtain ⟨B0, hB0⟩ : ∃ B0, B0 = [u8 op, f.one] ++ List.replicate 14 (0 : UInt8) := ⟨_, rfl⟩
        rw [← hB0] at M hpr
        have l0 : B0.length = 16 := by rw [hB0]; rfl
        obtain ⟨B1, hB1⟩ : ∃ B1, B1 = setB B0 f.la (nb lba f.ln) := ⟨_, rfl⟩
        have l1 : B1.length = 16 := by rw [hB1, setB_length (by rw [nb_length]; omega), l0]
        obtain ⟨B2, hB2⟩ : ∃ B2, B2 = setB B1 f.ca (nb ct.toNat f.cn) := ⟨_, rfl⟩
        have l2 : B2.length = 16 := by rw [hB2, setB_length (by rw [nb_length]; omega), l1]
        obtain ⟨B3, hB3⟩ : ∃ B3, B3 = setB B2 f.ra (nb rm.toNat f.rn) := ⟨_, rfl⟩
        rw [← hB1, ← hB2, ← hB3] at hpr
        have l3 : B3.length = 16 := by rw [hB3, setB_length (by rw [nb_length]; omega), l2]
        refine W.region ?_
        refine WL.move rfl rfl ?_
        refine WL.fieldR (off := 1) Try.underlying99 rfl rfl Try.sizeOf97 rfl rfl rfl ?_
        refine WL.loadSub (ss := [_, _]) Try.isAgg97 Try.sizeOf97 rfl M (by first | ((repeat (first | with_reducible exact Has.here | with_reducible refine Has.there ?_)); done) | (repeat (first | exact Has.here | refine Has.there ?_))) rfl rfl rfl ?_
        refine WL.fieldR (off := 1) Try.underlying36 rfl rfl Try.sizeOf22 rfl rfl rfl ?_
        refine WL.loadR Try.isAgg22 rfl M (by first | ((repeat (first | with_reducible exact Has.here | with_reducible refine Has.there ?_)); done) | (repeat (first | exact Has.here | refine Has.there ?_))) rfl rfl ?_
        refine WL.call Try.call64 rfl (cput_ok ⟨some ⟨g5_0, 0, none⟩, 16, B0⟩ (m := 16) l0.symm f.la f.ln lba (by dsimp only; omega) (by omega) (by omega) (by dsimp only; omega) w0 _ _ _ M (by first | ((repeat (first | with_reducible exact Del.here | with_reducible apply Del.there)); done) | (repeat (first | exact Del.here | apply Del.there)))) rfl ?_
        intro _ w M
        unfold OX.O at M
        dsimp only at M
        rw [← hB1] at M
        refine WL.nil ?_
        refine WX.next ?_
        refine W.sub [(1, _), (5, _), (7, _)] (.cons rfl (.cons rfl (.cons rfl .nil))) ?_
        refine W.seq ?_
        refine W.region ?_
        refine WL.move rfl rfl ?_
        refine WL.fieldR (off := 3) Try.underlying99 rfl rfl Try.sizeOf97 rfl rfl rfl ?_
        refine WL.loadSub (ss := [_, _]) Try.isAgg97 Try.sizeOf97 rfl M (by first | ((repeat (first | with_reducible exact Has.here | with_reducible refine Has.there ?_)); done) | (repeat (first | exact Has.here | refine Has.there ?_))) rfl rfl rfl ?_
        refine WL.fieldR (off := 2) Try.underlying36 rfl rfl Try.sizeOf3 rfl rfl rfl ?_
        refine WL.loadR Try.isAgg3 rfl M (by first | ((repeat (first | with_reducible exact Has.here | with_reducible refine Has.there ?_)); done) | (repeat (first | exact Has.here | refine Has.there ?_))) rfl rfl ?_
        refine WL.conv Try.underlying3 Try.underlying22 rfl (show IntKind.u64.wrap ct = (ct.toNat : Int) by have := maxCt_le (kindC op); rw [wU64 (by omega)]; omega) rfl ?_
        refine WL.call Try.call64 rfl (cput_ok ⟨some ⟨g5_0, 0, none⟩, 16, B1⟩ (m := 16) l1.symm f.ca f.cn ct.toNat (by dsimp only; omega) (by omega) (by have := maxCt_le (kindC op); omega) (by dsimp only; omega) w0 _ _ _ M (by first | ((repeat (first | with_reducible exact Del.here | with_reducible apply Del.there)); done) | (repeat (first | exact Del.here | apply Del.there)))) rfl ?_
        intro _ w M
        unfold OX.O at M
        dsimp only at M
        rw [← hB2] at M
        refine WL.nil ?_
        refine WX.next ?_
        refine W.sub [(1, _), (5, _), (7, _)] (.cons rfl (.cons rfl (.cons rfl .nil))) ?_
        refine W.seq ?_
        refine W.region ?_
        refine WL.move rfl rfl ?_
        refine WL.fieldR (off := 5) Try.underlying99 rfl rfl Try.sizeOf97 rfl rfl rfl ?_
        refine WL.loadSub (ss := [_, _]) Try.isAgg97 Try.sizeOf97 rfl M (by first | ((repeat (first | with_reducible exact Has.here | with_reducible refine Has.there ?_)); done) | (repeat (first | exact Has.here | refine Has.there ?_))) rfl rfl rfl ?_
        refine WL.fieldR (off := 3) Try.underlying36 rfl rfl Try.sizeOf3 rfl rfl rfl ?_
        refine WL.loadR Try.isAgg3 rfl M (by first | ((repeat (first | with_reducible exact Has.here | with_reducible refine Has.there ?_)); done) | (repeat (first | exact Has.here | refine Has.there ?_))) rfl rfl ?_
        refine WL.conv Try.underlying3 Try.underlying22 rfl (show IntKind.u64.wrap rm = (rm.toNat : Int) by have := maxRm_le (kindC op); rw [wU64 (by omega)]; omega) rfl ?_
        refine WL.call Try.call64 rfl (cput_ok ⟨some ⟨g5_0, 0, none⟩, 16, B2⟩ (m := 16) l2.symm f.ra f.rn rm.toNat (by dsimp only; omega) (by omega) (by have := maxRm_le (kindC op); omega) (by dsimp only; omega) w0 _ _ _ M (by first | ((repeat (first | with_reducible exact Del.here | with_reducible apply Del.there)); done) | (repeat (first | exact Del.here | apply Del.there)))) rfl ?_
        intro _ w M
        unfold OX.O at M
        dsimp only at M
        rw [← hB3] at M
        refine WL.nil ?_
        refine WX.next ?_
        refine W.sub [(7, _)] (.cons rfl .nil) ?_
        refine W.seq ?_
        refine W.region ?_
        refine WL.move rfl rfl ?_
        refine WL.assign rfl rfl ?_
        refine WL.assign rfl rfl ?_
        refine WL.nil ?_
        refine WX.next ?_
        refine W.sub [(2, _), (3, _)] (.cons rfl (.cons rfl .nil)) ?_
        refine W.ret ?_
        refine WX.ret2 rfl rfl rfl ?_
        exact ⟨⟨some ⟨g5_0, 0, none⟩, 16, B3⟩, by rw [hc0]; unfold OX.v; dsimp only; rw [l3], M.sel (by first | ((repeat (first | with_reducible exact Sel.refl | with_reducible exact Sel.nil | with_reducible exact Del.here | with_reducible apply Del.there | with_reducible apply Sel.cons | with_reducible apply Sel.drop)); done) | (repeat (first | exact Sel.refl | exact Sel.nil | exact Del.here | apply Del.there | apply Sel.cons | apply Sel.drop))), by rw [if_pos hc0, hpr]⟩
      · refine WL.storeB Try.sizeOf5 rfl rfl M (by first | ((repeat (first | with_reducible exact Has.here | with_reducible refine Has.there ?_)); done) | (repeat (first | exact Has.here | refine Has.there ?_))) (by omega) (by omega) (by omega) (by first | ((repeat (first | with_reducible exact Upd.here | with_reducible apply Upd.there)); done) | (repeat (first | exact Upd.here | apply Upd.there))) ?_
        intro w M
        refine DG.go (G := fun _ => false) (i := 8) (f' := 3) (done := [0, 1, 2, 5, 3, 4, 7]) (fun h => by cases h) ?_
        refine DG.step 6 2 rfl (by kernel_rfl) ?_
        refine WL.loadR Try.isAgg5 rfl M (by first | ((repeat (first | with_reducible exact Has.here | with_reducible refine Has.there ?_)); done) | (repeat (first | exact Has.here | refine Has.there ?_))) rfl rfl ?_
        refine DG.go (G := fun _ => false) (i := 6) (f' := 2) (done := [0, 1, 2, 5, 3, 4, 7, 8]) (fun h => by cases h) ?_
        apply DG.pure_ [9] 1 rfl (by kernel_rfl) (by kernel_rfl)
        · intro w
          refine WL.idxA (jn := 1) Try.underlying25 Try.sizeOf5 rfl rfl rfl (by omega) (by omega) (by first | exact rfl | exact (Int.toNat_of_nonneg (by omega)).symm) rfl ?_
          exact Chain.end_ rfl
        refine DG.step 10 0 rfl (by kernel_rfl) ?_
        refine WL.storeB Try.sizeOf5 rfl rfl M (by first | ((repeat (first | with_reducible exact Has.here | with_reducible refine Has.there ?_)); done) | (repeat (first | exact Has.here | refine Has.there ?_))) (by omega) (by omega) (by omega) (by first | ((repeat (first | with_reducible exact Upd.here | with_reducible apply Upd.there)); done) | (repeat (first | exact Upd.here | apply Upd.there))) ?_
        intro w M
        refine DG.go (G := fun _ => false) (i := 10) (f' := 0) (done := [0, 1, 2, 5, 3, 4, 7, 8, 6, 9]) (fun h => by cases h) ?_
        refine DG.end_ (by kernel_rfl) ?_
        refine WX.next ?_
        refine W.sub [(1, _), (5, _), (7, _)] (.cons rfl (.cons rfl (.cons rfl .nil))) ?_
        refine W.seq ?_
        have e0 : (Z.set 0 (u8 op)).set 1 (u8 (f.one.toNat : Int)) = [u8 op, f.one] ++ List.replicate 14 0 := by rw [u8_nat, hZ]; rfl
        rw [e0] at M
        obtain ⟨B0, hB0⟩ : ∃ B0, B0 = [u8 op, f.one] ++ List.replicate 14 (0 : UInt8) := ⟨_, rfl⟩
        rw [← hB0] at M hpr
        have l0 : B0.length = 16 := by rw [hB0]; rfl
        obtain ⟨B1, hB1⟩ : ∃ B1, B1 = setB B0 f.la (nb lba f.ln) := ⟨_, rfl⟩
        have l1 : B1.length = 16 := by rw [hB1, setB_length (by rw [nb_length]; omega), l0]
        obtain ⟨B2, hB2⟩ : ∃ B2, B2 = setB B1 f.ca (nb ct.toNat f.cn) := ⟨_, rfl⟩
        have l2 : B2.length = 16 := by rw [hB2, setB_length (by rw [nb_length]; omega), l1]
        obtain ⟨B3, hB3⟩ : ∃ B3, B3 = setB B2 f.ra (nb rm.toNat f.rn) := ⟨_, rfl⟩
        rw [← hB1, ← hB2, ← hB3] at hpr
        have l3 : B3.length = 16 := by rw [hB3, setB_length (by rw [nb_length]; omega), l2]
        refine W.region ?_
        refine WL.move rfl rfl ?_
        refine WL.fieldR (off := 1) Try.underlying99 rfl rfl Try.sizeOf97 rfl rfl rfl ?_
        refine WL.loadSub (ss := [_, _]) Try.isAgg97 Try.sizeOf97 rfl M (by first | ((repeat (first | with_reducible exact Has.here | with_reducible refine Has.there ?_)); done) | (repeat (first | exact Has.here | refine Has.there ?_))) rfl rfl rfl ?_
        refine WL.fieldR (off := 1) Try.underlying36 rfl rfl Try.sizeOf22 rfl rfl rfl ?_
        refine WL.loadR Try.isAgg22 rfl M (by first | ((repeat (first | with_reducible exact Has.here | with_reducible refine Has.there ?_)); done) | (repeat (first | exact Has.here | refine Has.there ?_))) rfl rfl ?_
        refine WL.call Try.call64 rfl (cput_ok ⟨some ⟨g5_0, 0, none⟩, 16, B0⟩ (m := 16) l0.symm f.la f.ln lba (by dsimp only; omega) (by omega) (by omega) (by dsimp only; omega) w0 _ _ _ M (by first | ((repeat (first | with_reducible exact Del.here | with_reducible apply Del.there)); done) | (repeat (first | exact Del.here | apply Del.there)))) rfl ?_
        intro _ w M
        unfold OX.O at M
        dsimp only at M
        rw [← hB1] at M
        refine WL.nil ?_
        refine WX.next ?_
        refine W.sub [(1, _), (5, _), (7, _)] (.cons rfl (.cons rfl (.cons rfl .nil))) ?_
        refine W.seq ?_
        refine W.region ?_
        refine WL.move rfl rfl ?_
        refine WL.fieldR (off := 3) Try.underlying99 rfl rfl Try.sizeOf97 rfl rfl rfl ?_
        refine WL.loadSub (ss := [_, _]) Try.isAgg97 Try.sizeOf97 rfl M (by first | ((repeat (first | with_reducible exact Has.here | with_reducible refine Has.there ?_)); done) | (repeat (first | exact Has.here | refine Has.there ?_))) rfl rfl rfl ?_
        refine WL.fieldR (off := 2) Try.underlying36 rfl rfl Try.sizeOf3 rfl rfl rfl ?_
        refine WL.loadR Try.isAgg3 rfl M (by first | ((repeat (first | with_reducible exact Has.here | with_reducible refine Has.there ?_)); done) | (repeat (first | exact Has.here | refine Has.there ?_))) rfl rfl ?_
        refine WL.conv Try.underlying3 Try.underlying22 rfl (show IntKind.u64.wrap ct = (ct.toNat : Int) by have := maxCt_le (kindC op); rw [wU64 (by omega)]; omega) rfl ?_
        refine WL.call Try.call64 rfl (cput_ok ⟨some ⟨g5_0, 0, none⟩, 16, B1⟩ (m := 16) l1.symm f.ca f.cn ct.toNat (by dsimp only; omega) (by omega) (by have := maxCt_le (kindC op); omega) (by dsimp only; omega) w0 _ _ _ M (by first | ((repeat (first | with_reducible exact Del.here | with_reducible apply Del.there)); done) | (repeat (first | exact Del.here | apply Del.there)))) rfl ?_
        intro _ w M
        unfold OX.O at M
        dsimp only at M
        rw [← hB2] at M
        refine WL.nil ?_
        refine WX.next ?_
        refine W.sub [(1, _), (5, _), (7, _)] (.cons rfl (.cons rfl (.cons rfl .nil))) ?_
        refine W.seq ?_
        refine W.region ?_
        refine WL.move rfl rfl ?_
        refine WL.fieldR (off := 5) Try.underlying99 rfl rfl Try.sizeOf97 rfl rfl rfl ?_
        refine WL.loadSub (ss := [_, _]) Try.isAgg97 Try.sizeOf97 rfl M (by first | ((repeat (first | with_reducible exact Has.here | with_reducible refine Has.there ?_)); done) | (repeat (first | exact Has.here | refine Has.there ?_))) rfl rfl rfl ?_
        refine WL.fieldR (off := 3) Try.underlying36 rfl rfl Try.sizeOf3 rfl rfl rfl ?_
        refine WL.loadR Try.isAgg3 rfl M (by first | ((repeat (first | with_reducible exact Has.here | with_reducible refine Has.there ?_)); done) | (repeat (first | exact Has.here | refine Has.there ?_))) rfl rfl ?_
        refine WL.conv Try.underlying3 Try.underlying22 rfl (show IntKind.u64.wrap rm = (rm.toNat : Int) by have := maxRm_le (kindC op); rw [wU64 (by omega)]; omega) rfl ?_
        refine WL.call Try.call64 rfl (cput_ok ⟨some ⟨g5_0, 0, none⟩, 16, B2⟩ (m := 16) l2.symm f.ra f.rn rm.toNat (by dsimp only; omega) (by omega) (by have := maxRm_le (kindC op); omega) (by dsimp only; omega) w0 _ _ _ M (by first | ((repeat (first | with_reducible exact Del.here | with_reducible apply Del.there)); done) | (repeat (first | exact Del.here | apply Del.there)))) rfl ?_
        intro _ w M
        unfold OX.O at M
        dsimp only at M
        rw [← hB3] at M
        refine WL.nil ?_
        refine WX.next ?_
        refine W.sub [(7, _)] (.cons rfl .nil) ?_
        refine W.seq ?_
        refine W.region ?_
        refine WL.move rfl rfl ?_
        refine WL.assign rfl rfl ?_
        refine WL.assign rfl rfl ?_
        refine WL.nil ?_
        refine WX.next ?_
        refine W.sub [(2, _), (3, _)] (.cons rfl (.cons rfl .nil)) ?_
        refine W.ret ?_
        refine WX.ret2 rfl rfl rfl ?_
        exact ⟨⟨some ⟨g5_0, 0, none⟩, 16, B3⟩, by rw [hc0]; unfold OX.v; dsimp only; rw [l3], M.sel (by first | ((repeat (first | with_reducible exact Sel.refl | with_reducible exact Sel.nil | with_reducible exact Del.here | with_reducible apply Del.there | with_reducible apply Sel.cons | with_reducible apply Sel.drop)); done) | (repeat (first | exact Sel.refl | exact Sel.nil | exact Del.here | apply Del.there | apply Sel.cons | apply Sel.drop))), by rw [if_pos hc0, hpr]⟩
    · refine WL.loadR Try.isAgg5 rfl M (by first | ((repeat (first | with_reducible exact Has.here | with_reducible refine Has.there ?_)); done) | (repeat (first | exact Has.here | refine Has.there ?_))) rfl rfl ?_
      refine DG.go (G := fun _ => false) (i := 6) (f' := 6) (done := [0, 1, 2, 5]) (fun h => by cases h) ?_
      apply DG.take [3, 4, 7] 3 rfl (by kernel_rfl) (by kernel_rfl) (M.sel (by first | ((repeat (first | with_reducible exact Sel.refl | with_reducible exact Sel.nil | with_reducible exact Del.here | with_reducible apply Del.there | with_reducible apply Sel.cons | with_reducible apply Sel.drop)); done) | (repeat (first | exact Sel.refl | exact Sel.nil | exact Del.here | apply Del.there | apply Sel.cons | apply Sel.drop))))
      · intro w M
        refine WL.loadR Try.isAgg3 rfl M (by first | ((repeat (first | with_reducible exact Has.here | with_reducible refine Has.there ?_)); done) | (repeat (first | exact Has.here | refine Has.there ?_))) rfl rfl ?_
        refine WL.conv Try.underlying3 Try.underlying5 rfl (by first | exact wU8 (by omega) | exact mU8 _ | rfl) rfl ?_
        refine WL.idxA (jn := 0) Try.underlying25 Try.sizeOf5 rfl rfl rfl (by omega) (by omega) (by first | exact rfl | exact (Int.toNat_of_nonneg (by omega)).symm) rfl ?_
        exact Chain.end_ rfl
      refine DG.step 8 2 rfl (by kernel_rfl) ?_
      refine WL.storeB Try.sizeOf5 rfl rfl M (by first | ((repeat (first | with_reducible exact Has.here | with_reducible refine Has.there ?_)); done) | (repeat (first | exact Has.here | refine Has.there ?_))) (by omega) (by omega) (by omega) (by first | ((repeat (first | with_reducible exact Upd.here | with_reducible apply Upd.there)); done) | (repeat (first | exact Upd.here | apply Upd.there))) ?_
      intro w M
      refine DG.go (G := fun _ => false) (i := 8) (f' := 2) (done := [0, 1, 2, 5, 6, 3, 4, 7]) (fun h => by cases h) ?_
      apply DG.pure_ [9] 1 rfl (by kernel_rfl) (by kernel_rfl)
      · intro w
        refine WL.idxA (jn := 1) Try.underlying25 Try.sizeOf5 rfl rfl rfl (by omega) (by omega) (by first | exact rfl | exact (Int.toNat_of_nonneg (by omega)).symm) rfl ?_
        exact Chain.end_ rfl
      refine DG.step 10 0 rfl (by kernel_rfl) ?_
      refine WL.storeB Try.sizeOf5 rfl rfl M (by first | ((repeat (first | with_reducible exact Has.here | with_reducible refine Has.there ?_)); done) | (repeat (first | exact Has.here | refine Has.there ?_))) (by omega) (by omega) (by omega) (by first | ((repeat (first | with_reducible exact Upd.here | with_reducible apply Upd.there)); done) | (repeat (first | exact Upd.here | apply Upd.there))) ?_
      intro w M
      refine DG.go (G := fun _ => false) (i := 10) (f' := 0) (done := [0, 1, 2, 5, 6, 3, 4, 7, 8, 9]) (fun h => by cases h) ?_
      refine DG.end_ (by kernel_rfl) ?_
      refine WX.next ?_
      refine W.sub [(1, _), (5, _), (7, _)] (.cons rfl (.cons rfl (.cons rfl .nil))) ?_
      refine W.seq ?_
      have e0 : (Z.set 0 (u8 op)).set 1 (u8 (f.one.toNat : Int)) = [u8 op, f.one] ++ List.replicate 14 0 := by rw [u8_nat, hZ]; rfl
      rw [e0] at M
      obtain ⟨B0, hB0⟩ : ∃ B0, B0 = [u8 op, f.one] ++ List.replicate 14 (0 : UInt8) := ⟨_, rfl⟩
      rw [← hB0] at M hpr
      have l0 : B0.length = 16 := by rw [hB0]; rfl
      obtain ⟨B1, hB1⟩ : ∃ B1, B1 = setB B0 f.la (nb lba f.ln) := ⟨_, rfl⟩
      have l1 : B1.length = 16 := by rw [hB1, setB_length (by rw [nb_length]; omega), l0]
      obtain ⟨B2, hB2⟩ : ∃ B2, B2 = setB B1 f.ca (nb ct.toNat f.cn) := ⟨_, rfl⟩
      have l2 : B2.length = 16 := by rw [hB2, setB_length (by rw [nb_length]; omega), l1]
      obtain ⟨B3, hB3⟩ : ∃ B3, B3 = setB B2 f.ra (nb rm.toNat f.rn) := ⟨_, rfl⟩
      rw [← hB1, ← hB2, ← hB3] at hpr
      have l3 : B3.length = 16 := by rw [hB3, setB_length (by rw [nb_length]; omega), l2]
      refine W.region ?_
      refine WL.move rfl rfl ?_
      refine WL.fieldR (off := 1) Try.underlying99 rfl rfl Try.sizeOf97 rfl rfl rfl ?_
      refine WL.loadSub (ss := [_, _]) Try.isAgg97 Try.sizeOf97 rfl M (by first | ((repeat (first | with_reducible exact Has.here | with_reducible refine Has.there ?_)); done) | (repeat (first | exact Has.here | refine Has.there ?_))) rfl rfl rfl ?_
      refine WL.fieldR (off := 1) Try.underlying36 rfl rfl Try.sizeOf22 rfl rfl rfl ?_
      refine WL.loadR Try.isAgg22 rfl M (by first | ((repeat (first | with_reducible exact Has.here | with_reducible refine Has.there ?_)); done) | (repeat (first | exact Has.here | refine Has.there ?_))) rfl rfl ?_
      refine WL.call Try.call64 rfl (cput_ok ⟨some ⟨g5_0, 0, none⟩, 16, B0⟩ (m := 16) l0.symm f.la f.ln lba (by dsimp only; omega) (by omega) (by omega) (by dsimp only; omega) w0 _ _ _ M (by first | ((repeat (first | with_reducible exact Del.here | with_reducible apply Del.there)); done) | (repeat (first | exact Del.here | apply Del.there)))) rfl ?_
      intro _ w M
      unfold OX.O at M
      dsimp only at M
      rw [← hB1] at M
      refine WL.nil ?_
      refine WX.next ?_
      refine W.sub [(1, _), (5, _), (7, _)] (.cons rfl (.cons rfl (.cons rfl .nil))) ?_
      refine W.seq ?_
      refine W.region ?_
      refine WL.move rfl rfl ?_
      refine WL.fieldR (off := 3) Try.underlying99 rfl rfl Try.sizeOf97 rfl rfl rfl ?_
      refine WL.loadSub (ss := [_, _]) Try.isAgg97 Try.sizeOf97 rfl M (by first | ((repeat (first | with_reducible exact Has.here | with_reducible refine Has.there ?_)); done) | (repeat (first | exact Has.here | refine Has.there ?_))) rfl rfl rfl ?_
      refine WL.fieldR (off := 2) Try.underlying36 rfl rfl Try.sizeOf3 rfl rfl rfl ?_
      refine WL.loadR Try.isAgg3 rfl M (by first | ((repeat (first | with_reducible exact Has.here | with_reducible refine Has.there ?_)); done) | (repeat (first | exact Has.here | refine Has.there ?_))) rfl rfl ?_
      refine WL.conv Try.underlying3 Try.underlying22 rfl (show IntKind.u64.wrap ct = (ct.toNat : Int) by have := maxCt_le (kindC op); rw [wU64 (by omega)]; omega) rfl ?_
      refine WL.call Try.call64 rfl (cput_ok ⟨some ⟨g5_0, 0, none⟩, 16, B1⟩ (m := 16) l1.symm f.ca f.cn ct.toNat (by dsimp only; omega) (by omega) (by have := maxCt_le (kindC op); omega) (by dsimp only; omega) w0 _ _ _ M (by first | ((repeat (first | with_reducible exact Del.here | with_reducible apply Del.there)); done) | (repeat (first | exact Del.here | apply Del.there)))) rfl ?_
      intro _ w M
      unfold OX.O at M
      dsimp only at M
      rw [← hB2] at M
      refine WL.nil ?_
      refine WX.next ?_
      refine W.sub [(1, _), (5, _), (7, _)] (.cons rfl (.cons rfl (.cons rfl .nil))) ?_
      refine W.seq ?_
      refine W.region ?_
      refine WL.move rfl rfl ?_
      refine WL.fieldR (off := 5) Try.underlying99 rfl rfl Try.sizeOf97 rfl rfl rfl ?_
      refine WL.loadSub (ss := [_, _]) Try.isAgg97 Try.sizeOf97 rfl M (by first | ((repeat (first | with_reducible exact Has.here | with_reducible refine Has.there ?_)); done) | (repeat (first | exact Has.here | refine Has.there ?_))) rfl rfl rfl ?_
      refine WL.fieldR (off := 3) Try.underlying36 rfl rfl Try.sizeOf3 rfl rfl rfl ?_
      refine WL.loadR Try.isAgg3 rfl M (by first | ((repeat (first | with_reducible exact Has.here | with_reducible refine Has.there ?_)); done) | (repeat (first | exact Has.here | refine Has.there ?_))) rfl rfl ?_
      refine WL.conv Try.underlying3 Try.underlying22 rfl (show IntKind.u64.wrap rm = (rm.toNat : Int) by have := maxRm_le (kindC op); rw [wU64 (by omega)]; omega) rfl ?_
      refine WL.call Try.call64 rfl (cput_ok ⟨some ⟨g5_0, 0, none⟩, 16, B2⟩ (m := 16) l2.symm f.ra f.rn rm.toNat (by dsimp only; omega) (by omega) (by have := maxRm_le (kindC op); omega) (by dsimp only; omega) w0 _ _ _ M (by first | ((repeat (first | with_reducible exact Del.here | with_reducible apply Del.there)); done) | (repeat (first | exact Del.here | apply Del.there)))) rfl ?_
      intro _ w M
      unfold OX.O at M
      dsimp only at M
      rw [← hB3] at M
      refine WL.nil ?_
      refine WX.next ?_
      refine W.sub [(7, _)] (.cons rfl .nil) ?_
      refine W.seq ?_
      refine W.region ?_
      refine WL.move rfl rfl ?_
      refine WL.assign rfl rfl ?_
      refine WL.assign rfl rfl ?_
      refine WL.nil ?_
      refine WX.next ?_
      refine W.sub [(2, _), (3, _)] (.cons rfl (.cons rfl .nil)) ?_
      refine W.ret ?_
      refine WX.ret2 rfl rfl rfl ?_
      exact ⟨⟨some ⟨g5_0, 0, none⟩, 16, B3⟩, by rw [hc0]; unfold OX.v; dsimp only; rw [l3], M.sel (by first | ((repeat (first | with_reducible exact Sel.refl | with_reducible exact Sel.nil | with_reducible exact Del.here | with_reducible apply Del.there | with_reducible apply Sel.cons | with_reducible apply Sel.drop)); done) | (repeat (first | exact Sel.refl | exact Sel.nil | exact Del.here | apply Del.there | apply Sel.cons | apply Sel.drop))), by rw [if_pos hc0, hpr]⟩
end Go.Proofs.Ytinbcidgdbmcjaa
