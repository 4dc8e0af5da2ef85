/-
  Walk: the document's bytes of a message (seawallref20.Put).
-/
import Derived.Test.YtinbcidgdbmcjaaPduRef1
namespace Go.Proofs.Ytinbcidgdbmcjaa
open Go Go.RowKit Bin

theorem ws_get (ws : Nat → Nat) {i : Nat} (h : i < 7) : [Value.int .u32 (ws 0 : Int), .int .u32 (ws 1 : Int), .int .u32 (ws 2 : Int), .int .u32 (ws 3 : Int), .int .u32 (ws 4 : Int), .int .u32 (ws 5 : Int), .int .u32 (ws 6 : Int)][i]? = some (.int .u32 (ws i : Int)) := by
  match i, h with
  | 0, _ => rfl
  | 1, _ => rfl
  | 2, _ => rfl
  | 3, _ => rfl
  | 4, _ => rfl
  | 5, _ => rfl
  | 6, _ => rfl
theorem nb_head (op : UInt8) (fl : UInt8) {n : Nat} (hn : n < 16777216) (lun tag : Nat) : (([op, fl, 0, 0, 0] ++ nb n 3) ++ nb lun 8) ++ nb tag 4 = [op, fl, 0, 0] ++ [n, lun / 4294967296, lun % 4294967296, tag].flatMap fixed := by
  rw [show ([op, fl, 0, 0, 0] : List UInt8) ++ nb n 3 = [op, fl, 0, 0] ++ ((0 : UInt8) :: nb n 3) by simp, nb3 hn, nb8, nb4]
  simp [List.append_assoc]
theorem flat_snoc (ws : Nat → Nat) (i : Nat) : ((List.range (i + 1)).map ws).flatMap fixed = ((List.range i).map ws).flatMap fixed ++ nb (ws i) 4 := by
  rw [List.range_succ, List.map_append, List.flatMap_append, nb4]
  simp
theorem flat_length (ws : Nat → Nat) : ∀ (i : Nat), (((List.range i).map ws).flatMap fixed).length = 4 * i
  | 0 => rfl
  | i + 1 => by
    rw [flat_snoc, List.length_append, flat_length ws i, nb_length]
    omega
set_option maxRecDepth 10000 in
set_option maxHeartbeats 4000000 in
theorem refPut20_ok (p : PdX) (w0 : World) (hb : RdB w0 p.x.A p.x.cap p.x.l) (hi : p.m.inn) (hl : p.x.l.length ≤ 1000000) :
    Fn Try.prog 12 [p.v] w0 fun v w' => ∃ x' : OX, v = .tuple #[x'.v, .int .i64 (chkM p.op p.now p.x.l.length)] ∧ Mem w0 w' [x'.O] ∧ (chkM p.op p.now p.x.l.length = 0 → x'.l = putM p.m) ∧ (chkM p.op p.now p.x.l.length ≠ 0 → x'.l = []) := by
  have M := Mem.refl w0
  obtain ⟨w, hw⟩ : ∃ w, w = w0 := ⟨w0, rfl⟩
  obtain ⟨op, now, flags, lun, tag, ws, ⟨A, cap, l⟩⟩ := p
  obtain ⟨b1, b2, b3⟩ := hi
  unfold PdX.v
  dsimp only [PdX.m] at hb hl b1 b2 b3 ⊢
  refine Fn.enter Try.func12 rfl Try.ntmps12 rfl ?_
  refine W.sub [(0, _)] (.cons rfl .nil) ?_
  refine W.seq ?_
  refine W.region ?_
  refine WL.box rfl M rfl ?_
  intro g0_0 w M
  try simp only [Value.cells] at M
  try simp only [List.toList_toArray] at M
  refine WL.assign rfl rfl ?_
  refine WL.assign rfl rfl ?_
  refine WL.nil ?_
  refine WX.next ?_
  refine W.sub [(1, _)] (.cons rfl .nil) ?_
  refine W.seq ?_
  refine W.region ?_
  refine WL.loadW Try.isAgg27 Try.sizeOf27 rfl M (by first | ((repeat (first | with_reducible exact Has.here | with_reducible refine Has.there ?_)); done) | (repeat (first | exact Has.here | refine Has.there ?_))) rfl rfl ?_
  refine WL.call Try.call16 rfl (refCheck_ok ⟨op, now, flags, lun, tag, ws, ⟨A, cap, l⟩⟩ w) rfl ?_
  rintro _ w ⟨rfl, m⟩
  replace M := M.call0 m; clear m
  dsimp only
  refine WL.assign rfl rfl ?_
  refine WL.nil ?_
  refine WX.next ?_
  refine W.sub [(1, _), (4, _)] (.cons rfl (.cons rfl .nil)) ?_
  refine W.seq ?_
  refine W.seq ?_
  refine W.region ?_
  refine WL.move rfl rfl ?_
  refine WL.neI rfl rfl rfl ?_
  refine WL.nil ?_
  refine WX.next ?_
  refine W.sub [(1, _), (4, _), (15, _)] (.cons rfl (.cons rfl (.cons rfl .nil))) ?_
  refine W.ite rfl (fun c0 => ?_) (fun c0 => ?_)
  · refine W.seq ?_
    refine W.region ?_
    refine WL.move rfl rfl ?_
    refine WL.assign rfl rfl ?_
    refine WL.assign rfl rfl ?_
    refine WL.nil ?_
    refine WX.next ?_
    refine W.sub [(2, _), (3, _)] (.cons rfl (.cons rfl .nil)) ?_
    refine W.ret ?_
    refine WX.thenRet ?_
    refine WX.ret2 rfl rfl rfl ?_
    exact ⟨⟨none, 0, []⟩, rfl, (M.nilOwn 5 1).sel (by first | ((repeat (first | with_reducible exact Sel.refl | with_reducible exact Sel.nil | with_reducible exact Del.here | with_reducible apply Del.there | with_reducible apply Sel.cons | with_reducible apply Sel.drop)); done) | (repeat (first | exact Sel.refl | exact Sel.nil | exact Del.here | apply Del.there | apply Sel.cons | apply Sel.drop))), fun h => absurd h c0, fun _ => rfl⟩
  · have hc : chkM op now l.length = 0 := by omega
    obtain ⟨o1, o2, o3⟩ := chkM_zero hc
    have hop := opsL_le o1
    refine W.skip ?_
    refine WX.next ?_
    refine W.seq ?_
    refine W.region ?_
    refine WL.fieldR (off := 0) Try.underlying27 rfl rfl Try.sizeOf3 rfl rfl rfl ?_
    refine WL.loadR Try.isAgg3 rfl M (by first | ((repeat (first | with_reducible exact Has.here | with_reducible refine Has.there ?_)); done) | (repeat (first | exact Has.here | refine Has.there ?_))) rfl rfl ?_
    refine WL.assign rfl rfl ?_
    refine WL.nil ?_
    refine WX.next ?_
    refine W.sub [(1, _), (5, _)] (.cons rfl (.cons rfl .nil)) ?_
    refine W.joint (fun (_ : Unit) => [(1, .pointer (some ⟨g0_0, 0, none⟩)), (5, .int .i64 ((opB op now).toNat : Int))]) (fun j w => Mem w0 w ((fun _ => [Asr.row g0_0 27 (PdX.cells ⟨op, now, flags, lun, tag, ws, ⟨A, cap, l⟩⟩)]) j) ∧ (fun _ => True) j) ?_ ?_
    · refine W.seq ?_
      refine W.region ?_
      refine WL.fieldR (off := 1) Try.underlying27 rfl rfl Try.sizeOf4 rfl rfl rfl ?_
      refine WL.loadR Try.isAgg4 rfl M (by first | ((repeat (first | with_reducible exact Has.here | with_reducible refine Has.there ?_)); done) | (repeat (first | exact Has.here | refine Has.there ?_))) rfl rfl ?_
      refine WL.nil ?_
      refine WX.next ?_
      refine W.sub [(1, _), (5, _), (20, _)] (.cons rfl (.cons rfl (.cons rfl .nil))) ?_
      refine W.cond rfl (fun c1 => ?_) (fun c1 => ?_)
      · (try simp only [Bool.not_eq_true'] at c1); (try simp only [Bool.not_eq_false'] at c1); (try simp only [decide_eq_true_eq] at c1); (try simp only [decide_eq_false_iff_not] at c1)
        refine W.region ?_
        refine WL.move rfl rfl ?_
        refine WL.add rfl rfl (by first | exact wI64 (by omega) | rfl) rfl ?_
        refine WL.assign rfl rfl ?_
        refine WL.nil ?_
        obtain rfl : now = true := c1
        have hob := opB_nat (now := true) o1
        rw [if_pos rfl] at hob
        refine WX.join (()) (by (repeat' (first | exact envSub.nil | refine envSub.cons ?_ ?_)) <;> first | rfl | (refine congrArg some ?_; refine congrArg (Value.int _) ?_; first | omega | (dsimp only; omega)) | (simp; done) | (refine congrArg some ?_; dsimp only; congr 1; omega) | (simp; omega)) ⟨M.sel (by first | ((repeat (first | with_reducible exact Sel.refl | with_reducible exact Sel.nil | with_reducible exact Del.here | with_reducible apply Del.there | with_reducible apply Sel.cons | with_reducible apply Sel.drop)); done) | (repeat (first | exact Sel.refl | exact Sel.nil | exact Del.here | apply Del.there | apply Sel.cons | apply Sel.drop))), trivial⟩
      · (try simp only [Bool.not_eq_true'] at c1); (try simp only [Bool.not_eq_false'] at c1); (try simp only [decide_eq_true_eq] at c1); (try simp only [decide_eq_false_iff_not] at c1)
        refine W.skip ?_
        obtain rfl : now = false := c1
        have hob := opB_nat (now := false) o1
        rw [if_neg (by decide)] at hob
        refine WX.join (()) (by (repeat' (first | exact envSub.nil | refine envSub.cons ?_ ?_)) <;> first | rfl | (refine congrArg some ?_; refine congrArg (Value.int _) ?_; first | omega | (dsimp only; omega)) | (simp; done) | (refine congrArg some ?_; dsimp only; congr 1; omega) | (simp; omega)) ⟨M.sel (by first | ((repeat (first | with_reducible exact Sel.refl | with_reducible exact Sel.nil | with_reducible exact Del.here | with_reducible apply Del.there | with_reducible apply Sel.cons | with_reducible apply Sel.drop)); done) | (repeat (first | exact Sel.refl | exact Sel.nil | exact Del.here | apply Del.there | apply Sel.cons | apply Sel.drop))), trivial⟩
    clear M; rintro (_) w ⟨M, -⟩; dsimp only at M ⊢
    refine W.sub [(1, _), (5, _)] (.cons rfl (.cons rfl .nil)) ?_
    unfold PdX.cells at M
    dsimp only at M
    refine W.seq ?_
    refine W.region ?_
    refine WL.move rfl rfl ?_
    refine WL.conv Try.underlying3 Try.underlying5 rfl (show IntKind.u8.wrap ((opB op now).toNat : Int) = ((opB op now).toNat : Int) by have := UInt8.toNat_lt (opB op now); exact wU8 (by omega)) rfl ?_
    refine WL.fieldR (off := 2) Try.underlying27 rfl rfl Try.sizeOf5 rfl rfl rfl ?_
    refine WL.loadR Try.isAgg5 rfl M (by first | ((repeat (first | with_reducible exact Has.here | with_reducible refine Has.there ?_)); done) | (repeat (first | exact Has.here | refine Has.there ?_))) rfl rfl ?_
    refine WL.buildB (es := [_, _, _, _, _]) Try.elem5 M rfl rfl (by (first | apply BytesOf.nat | apply BytesOf.any (by omega)); (first | apply BytesOf.nat | apply BytesOf.any (by omega)); apply BytesOf.lit (b := 0) (by decide); apply BytesOf.lit (b := 0) (by decide); apply BytesOf.lit (b := 0) (by decide); exact BytesOf.nil) (by rfl) rfl rfl ?_
    intro g7_4 w M
    refine WL.assign rfl rfl ?_
    refine WL.nil ?_
    refine WX.next ?_
    refine W.sub [(1, _), (6, _)] (.cons rfl (.cons rfl .nil)) ?_
    refine W.seq ?_
    refine W.region ?_
    refine WL.fieldR (off := 12) Try.underlying27 rfl rfl Try.sizeOf25 rfl rfl rfl ?_
    refine WL.loadR Try.isAgg25 rfl M (by first | ((repeat (first | with_reducible exact Has.here | with_reducible refine Has.there ?_)); done) | (repeat (first | exact Has.here | refine Has.there ?_))) rfl rfl ?_
    refine WL.len Try.underlying25 rfl rfl ?_
    refine WL.conv Try.underlying3 Try.underlying22 rfl (by first | exact wU64 (by omega) | exact mU64 _ | rfl) rfl ?_
    refine WL.call Try.call37 rfl (refPut19_ok l.length 3 (z := 3) rfl (by omega) (by decide) _) rfl ?_
    rintro _ w ⟨⟨A8, c8', x8⟩, rfl, h8, m⟩
    replace M := M.call1 m; clear m
    unfold OX.v
    unfold OX.O at M
    dsimp only at h8 M ⊢
    have hl8 : x8.length = 3 := by rw [h8, nb_length]
    refine WL.assign rfl rfl ?_
    refine WL.nil ?_
    refine WX.next ?_
    refine W.sub [(1, _), (6, _), (7, _)] (.cons rfl (.cons rfl (.cons rfl .nil))) ?_
    refine W.seq ?_
    refine W.region ?_
    refine WL.fieldR (off := 3) Try.underlying27 rfl rfl Try.sizeOf22 rfl rfl rfl ?_
    refine WL.loadR Try.isAgg22 rfl M (by first | ((repeat (first | with_reducible exact Has.here | with_reducible refine Has.there ?_)); done) | (repeat (first | exact Has.here | refine Has.there ?_))) rfl rfl ?_
    refine WL.call Try.call37 rfl (refPut19_ok lun 8 (z := 8) rfl b1 (by decide) _) rfl ?_
    rintro _ w ⟨⟨A9, c9', x9⟩, rfl, h9, m⟩
    replace M := M.call1 m; clear m
    unfold OX.v
    unfold OX.O at M
    dsimp only at h9 M ⊢
    have hl9 : x9.length = 8 := by rw [h9, nb_length]
    refine WL.assign rfl rfl ?_
    refine WL.nil ?_
    refine WX.next ?_
    refine W.sub [(1, _), (6, _), (7, _), (8, _)] (.cons rfl (.cons rfl (.cons rfl (.cons rfl .nil)))) ?_
    refine W.seq ?_
    refine W.region ?_
    refine WL.fieldR (off := 4) Try.underlying27 rfl rfl Try.sizeOf23 rfl rfl rfl ?_
    refine WL.loadR Try.isAgg23 rfl M (by first | ((repeat (first | with_reducible exact Has.here | with_reducible refine Has.there ?_)); done) | (repeat (first | exact Has.here | refine Has.there ?_))) rfl rfl ?_
    refine WL.conv Try.underlying23 Try.underlying22 rfl (by first | exact wU64 (by omega) | exact mU64 _ | rfl) rfl ?_
    refine WL.call Try.call37 rfl (refPut19_ok tag 4 (z := 4) rfl (by omega) (by decide) _) rfl ?_
    rintro _ w ⟨⟨A10, c10', x10⟩, rfl, h10, m⟩
    replace M := M.call1 m; clear m
    unfold OX.v
    unfold OX.O at M
    dsimp only at h10 M ⊢
    have hl10 : x10.length = 4 := by rw [h10, nb_length]
    refine WL.assign rfl rfl ?_
    refine WL.nil ?_
    refine WX.next ?_
    refine W.sub [(1, _), (6, _), (7, _), (8, _), (9, _)] (.cons rfl (.cons rfl (.cons rfl (.cons rfl (.cons rfl .nil))))) ?_
    refine W.seq ?_
    refine W.region ?_
    refine WL.move rfl rfl ?_
    refine WL.move rfl rfl ?_
    refine WL.appendBH Try.elem5 rfl rfl M (by first | ((repeat (first | with_reducible exact Del.here | with_reducible apply Del.there)); done) | (repeat (first | exact Del.here | apply Del.there))) (by first | first | with_reducible assumption | with_reducible exact RdB.mem (by with_reducible assumption) M | exact M.rdB (by first | ((repeat (first | with_reducible exact Has.here | with_reducible refine Has.there ?_)); done) | (repeat (first | exact Has.here | refine Has.there ?_))) | exact RdH.at (by assumption) (M.sel (by first | ((repeat (first | with_reducible exact Sel.refl | with_reducible exact Sel.nil | with_reducible exact Del.here | with_reducible apply Del.there | with_reducible apply Sel.cons | with_reducible apply Sel.drop)); done) | (repeat (first | exact Sel.refl | exact Sel.nil | exact Del.here | apply Del.there | apply Sel.cons | apply Sel.drop)))) | exact M.rdLit' (by first | ((repeat (first | with_reducible exact Has.here | with_reducible refine Has.there ?_)); done) | (repeat (first | exact Has.here | refine Has.there ?_))) | exact M.rdLent (by first | ((repeat (first | with_reducible exact Has.here | with_reducible refine Has.there ?_)); done) | (repeat (first | exact Has.here | refine Has.there ?_))) | exact RdB.nil _ _ | exact RdB.sub (by first | with_reducible assumption | with_reducible exact RdB.mem (by with_reducible assumption) M | exact M.rdB (by first | ((repeat (first | with_reducible exact Has.here | with_reducible refine Has.there ?_)); done) | (repeat (first | exact Has.here | refine Has.there ?_))) | exact RdH.at (by assumption) (M.sel (by first | ((repeat (first | with_reducible exact Sel.refl | with_reducible exact Sel.nil | with_reducible exact Del.here | with_reducible apply Del.there | with_reducible apply Sel.cons | with_reducible apply Sel.drop)); done) | (repeat (first | exact Sel.refl | exact Sel.nil | exact Del.here | apply Del.there | apply Sel.cons | apply Sel.drop)))) | exact M.rdLit' (by first | ((repeat (first | with_reducible exact Has.here | with_reducible refine Has.there ?_)); done) | (repeat (first | exact Has.here | refine Has.there ?_))) | exact M.rdLent (by first | ((repeat (first | with_reducible exact Has.here | with_reducible refine Has.there ?_)); done) | (repeat (first | exact Has.here | refine Has.there ?_))) | exact RdB.nil _ _) (by omega) (by omega) | exact RdB.pre' (by first | with_reducible assumption | with_reducible exact RdB.mem (by with_reducible assumption) M | exact M.rdB (by first | ((repeat (first | with_reducible exact Has.here | with_reducible refine Has.there ?_)); done) | (repeat (first | exact Has.here | refine Has.there ?_))) | exact RdH.at (by assumption) (M.sel (by first | ((repeat (first | with_reducible exact Sel.refl | with_reducible exact Sel.nil | with_reducible exact Del.here | with_reducible apply Del.there | with_reducible apply Sel.cons | with_reducible apply Sel.drop)); done) | (repeat (first | exact Sel.refl | exact Sel.nil | exact Del.here | apply Del.there | apply Sel.cons | apply Sel.drop)))) | exact M.rdLit' (by first | ((repeat (first | with_reducible exact Has.here | with_reducible refine Has.there ?_)); done) | (repeat (first | exact Has.here | refine Has.there ?_))) | exact M.rdLent (by first | ((repeat (first | with_reducible exact Has.here | with_reducible refine Has.there ?_)); done) | (repeat (first | exact Has.here | refine Has.there ?_))) | exact RdB.nil _ _) (by omega) | exact RdB.suf (by first | with_reducible assumption | with_reducible exact RdB.mem (by with_reducible assumption) M | exact M.rdB (by first | ((repeat (first | with_reducible exact Has.here | with_reducible refine Has.there ?_)); done) | (repeat (first | exact Has.here | refine Has.there ?_))) | exact RdH.at (by assumption) (M.sel (by first | ((repeat (first | with_reducible exact Sel.refl | with_reducible exact Sel.nil | with_reducible exact Del.here | with_reducible apply Del.there | with_reducible apply Sel.cons | with_reducible apply Sel.drop)); done) | (repeat (first | exact Sel.refl | exact Sel.nil | exact Del.here | apply Del.there | apply Sel.cons | apply Sel.drop)))) | exact M.rdLit' (by first | ((repeat (first | with_reducible exact Has.here | with_reducible refine Has.there ?_)); done) | (repeat (first | exact Has.here | refine Has.there ?_))) | exact M.rdLent (by first | ((repeat (first | with_reducible exact Has.here | with_reducible refine Has.there ?_)); done) | (repeat (first | exact Has.here | refine Has.there ?_))) | exact RdB.nil _ _) (by omega)) rfl rfl (by rw [hl8]; simp) rfl ?_
    intro A11_2 cap11_2 w M
    refine WL.assign rfl rfl ?_
    refine WL.nil ?_
    refine WX.next ?_
    refine W.sub [(1, _), (6, _), (8, _), (9, _)] (.cons rfl (.cons rfl (.cons rfl (.cons rfl .nil)))) ?_
    refine W.seq ?_
    refine W.region ?_
    refine WL.move rfl rfl ?_
    refine WL.move rfl rfl ?_
    refine WL.appendBH Try.elem5 rfl rfl M (by first | ((repeat (first | with_reducible exact Del.here | with_reducible apply Del.there)); done) | (repeat (first | exact Del.here | apply Del.there))) (by first | first | with_reducible assumption | with_reducible exact RdB.mem (by with_reducible assumption) M | exact M.rdB (by first | ((repeat (first | with_reducible exact Has.here | with_reducible refine Has.there ?_)); done) | (repeat (first | exact Has.here | refine Has.there ?_))) | exact RdH.at (by assumption) (M.sel (by first | ((repeat (first | with_reducible exact Sel.refl | with_reducible exact Sel.nil | with_reducible exact Del.here | with_reducible apply Del.there | with_reducible apply Sel.cons | with_reducible apply Sel.drop)); done) | (repeat (first | exact Sel.refl | exact Sel.nil | exact Del.here | apply Del.there | apply Sel.cons | apply Sel.drop)))) | exact M.rdLit' (by first | ((repeat (first | with_reducible exact Has.here | with_reducible refine Has.there ?_)); done) | (repeat (first | exact Has.here | refine Has.there ?_))) | exact M.rdLent (by first | ((repeat (first | with_reducible exact Has.here | with_reducible refine Has.there ?_)); done) | (repeat (first | exact Has.here | refine Has.there ?_))) | exact RdB.nil _ _ | exact RdB.sub (by first | with_reducible assumption | with_reducible exact RdB.mem (by with_reducible assumption) M | exact M.rdB (by first | ((repeat (first | with_reducible exact Has.here | with_reducible refine Has.there ?_)); done) | (repeat (first | exact Has.here | refine Has.there ?_))) | exact RdH.at (by assumption) (M.sel (by first | ((repeat (first | with_reducible exact Sel.refl | with_reducible exact Sel.nil | with_reducible exact Del.here | with_reducible apply Del.there | with_reducible apply Sel.cons | with_reducible apply Sel.drop)); done) | (repeat (first | exact Sel.refl | exact Sel.nil | exact Del.here | apply Del.there | apply Sel.cons | apply Sel.drop)))) | exact M.rdLit' (by first | ((repeat (first | with_reducible exact Has.here | with_reducible refine Has.there ?_)); done) | (repeat (first | exact Has.here | refine Has.there ?_))) | exact M.rdLent (by first | ((repeat (first | with_reducible exact Has.here | with_reducible refine Has.there ?_)); done) | (repeat (first | exact Has.here | refine Has.there ?_))) | exact RdB.nil _ _) (by omega) (by omega) | exact RdB.pre' (by first | with_reducible assumption | with_reducible exact RdB.mem (by with_reducible assumption) M | exact M.rdB (by first | ((repeat (first | with_reducible exact Has.here | with_reducible refine Has.there ?_)); done) | (repeat (first | exact Has.here | refine Has.there ?_))) | exact RdH.at (by assumption) (M.sel (by first | ((repeat (first | with_reducible exact Sel.refl | with_reducible exact Sel.nil | with_reducible exact Del.here | with_reducible apply Del.there | with_reducible apply Sel.cons | with_reducible apply Sel.drop)); done) | (repeat (first | exact Sel.refl | exact Sel.nil | exact Del.here | apply Del.there | apply Sel.cons | apply Sel.drop)))) | exact M.rdLit' (by first | ((repeat (first | with_reducible exact Has.here | with_reducible refine Has.there ?_)); done) | (repeat (first | exact Has.here | refine Has.there ?_))) | exact M.rdLent (by first | ((repeat (first | with_reducible exact Has.here | with_reducible refine Has.there ?_)); done) | (repeat (first | exact Has.here | refine Has.there ?_))) | exact RdB.nil _ _) (by omega) | exact RdB.suf (by first | with_reducible assumption | with_reducible exact RdB.mem (by with_reducible assumption) M | exact M.rdB (by first | ((repeat (first | with_reducible exact Has.here | with_reducible refine Has.there ?_)); done) | (repeat (first | exact Has.here | refine Has.there ?_))) | exact RdH.at (by assumption) (M.sel (by first | ((repeat (first | with_reducible exact Sel.refl | with_reducible exact Sel.nil | with_reducible exact Del.here | with_reducible apply Del.there | with_reducible apply Sel.cons | with_reducible apply Sel.drop)); done) | (repeat (first | exact Sel.refl | exact Sel.nil | exact Del.here | apply Del.there | apply Sel.cons | apply Sel.drop)))) | exact M.rdLit' (by first | ((repeat (first | with_reducible exact Has.here | with_reducible refine Has.there ?_)); done) | (repeat (first | exact Has.here | refine Has.there ?_))) | exact M.rdLent (by first | ((repeat (first | with_reducible exact Has.here | with_reducible refine Has.there ?_)); done) | (repeat (first | exact Has.here | refine Has.there ?_))) | exact RdB.nil _ _) (by omega)) rfl rfl (by rw [List.length_append, hl8, hl9]; simp) rfl ?_
    intro A12_2 cap12_2 w M
    refine WL.assign rfl rfl ?_
    refine WL.nil ?_
    refine WX.next ?_
    refine W.sub [(1, _), (6, _), (9, _)] (.cons rfl (.cons rfl (.cons rfl .nil))) ?_
    refine W.seq ?_
    refine W.region ?_
    refine WL.move rfl rfl ?_
    refine WL.move rfl rfl ?_
    refine WL.appendBH Try.elem5 rfl rfl M (by first | ((repeat (first | with_reducible exact Del.here | with_reducible apply Del.there)); done) | (repeat (first | exact Del.here | apply Del.there))) (by first | first | with_reducible assumption | with_reducible exact RdB.mem (by with_reducible assumption) M | exact M.rdB (by first | ((repeat (first | with_reducible exact Has.here | with_reducible refine Has.there ?_)); done) | (repeat (first | exact Has.here | refine Has.there ?_))) | exact RdH.at (by assumption) (M.sel (by first | ((repeat (first | with_reducible exact Sel.refl | with_reducible exact Sel.nil | with_reducible exact Del.here | with_reducible apply Del.there | with_reducible apply Sel.cons | with_reducible apply Sel.drop)); done) | (repeat (first | exact Sel.refl | exact Sel.nil | exact Del.here | apply Del.there | apply Sel.cons | apply Sel.drop)))) | exact M.rdLit' (by first | ((repeat (first | with_reducible exact Has.here | with_reducible refine Has.there ?_)); done) | (repeat (first | exact Has.here | refine Has.there ?_))) | exact M.rdLent (by first | ((repeat (first | with_reducible exact Has.here | with_reducible refine Has.there ?_)); done) | (repeat (first | exact Has.here | refine Has.there ?_))) | exact RdB.nil _ _ | exact RdB.sub (by first | with_reducible assumption | with_reducible exact RdB.mem (by with_reducible assumption) M | exact M.rdB (by first | ((repeat (first | with_reducible exact Has.here | with_reducible refine Has.there ?_)); done) | (repeat (first | exact Has.here | refine Has.there ?_))) | exact RdH.at (by assumption) (M.sel (by first | ((repeat (first | with_reducible exact Sel.refl | with_reducible exact Sel.nil | with_reducible exact Del.here | with_reducible apply Del.there | with_reducible apply Sel.cons | with_reducible apply Sel.drop)); done) | (repeat (first | exact Sel.refl | exact Sel.nil | exact Del.here | apply Del.there | apply Sel.cons | apply Sel.drop)))) | exact M.rdLit' (by first | ((repeat (first | with_reducible exact Has.here | with_reducible refine Has.there ?_)); done) | (repeat (first | exact Has.here | refine Has.there ?_))) | exact M.rdLent (by first | ((repeat (first | with_reducible exact Has.here | with_reducible refine Has.there ?_)); done) | (repeat (first | exact Has.here | refine Has.there ?_))) | exact RdB.nil _ _) (by omega) (by omega) | exact RdB.pre' (by first | with_reducible assumption | with_reducible exact RdB.mem (by with_reducible assumption) M | exact M.rdB (by first | ((repeat (first | with_reducible exact Has.here | with_reducible refine Has.there ?_)); done) | (repeat (first | exact Has.here | refine Has.there ?_))) | exact RdH.at (by assumption) (M.sel (by first | ((repeat (first | with_reducible exact Sel.refl | with_reducible exact Sel.nil | with_reducible exact Del.here | with_reducible apply Del.there | with_reducible apply Sel.cons | with_reducible apply Sel.drop)); done) | (repeat (first | exact Sel.refl | exact Sel.nil | exact Del.here | apply Del.there | apply Sel.cons | apply Sel.drop)))) | exact M.rdLit' (by first | ((repeat (first | with_reducible exact Has.here | with_reducible refine Has.there ?_)); done) | (repeat (first | exact Has.here | refine Has.there ?_))) | exact M.rdLent (by first | ((repeat (first | with_reducible exact Has.here | with_reducible refine Has.there ?_)); done) | (repeat (first | exact Has.here | refine Has.there ?_))) | exact RdB.nil _ _) (by omega) | exact RdB.suf (by first | with_reducible assumption | with_reducible exact RdB.mem (by with_reducible assumption) M | exact M.rdB (by first | ((repeat (first | with_reducible exact Has.here | with_reducible refine Has.there ?_)); done) | (repeat (first | exact Has.here | refine Has.there ?_))) | exact RdH.at (by assumption) (M.sel (by first | ((repeat (first | with_reducible exact Sel.refl | with_reducible exact Sel.nil | with_reducible exact Del.here | with_reducible apply Del.there | with_reducible apply Sel.cons | with_reducible apply Sel.drop)); done) | (repeat (first | exact Sel.refl | exact Sel.nil | exact Del.here | apply Del.there | apply Sel.cons | apply Sel.drop)))) | exact M.rdLit' (by first | ((repeat (first | with_reducible exact Has.here | with_reducible refine Has.there ?_)); done) | (repeat (first | exact Has.here | refine Has.there ?_))) | exact M.rdLent (by first | ((repeat (first | with_reducible exact Has.here | with_reducible refine Has.there ?_)); done) | (repeat (first | exact Has.here | refine Has.there ?_))) | exact RdB.nil _ _) (by omega)) rfl rfl (by rw [List.length_append, List.length_append, hl8, hl9, hl10]; simp) rfl ?_
    intro A13_2 cap13_2 w M
    refine WL.assign rfl rfl ?_
    refine WL.nil ?_
    refine WX.next ?_
    refine W.sub [(1, _), (6, _)] (.cons rfl (.cons rfl .nil)) ?_
    refine W.seq ?_
    refine W.seq ?_
    rw [h8, h9, h10, nb_head (opB op now) flags (by omega) lun tag] at M ⊢
    obtain ⟨H, hH⟩ : ∃ H, H = [opB op now, flags, 0, 0] ++ [l.length, lun / 4294967296, lun % 4294967296, tag].flatMap fixed := ⟨_, rfl⟩
    have hHl : H.length = 20 := by rw [hH]; rfl
    rw [← hH] at M ⊢
    refine W.region ?_
    refine WL.assign rfl rfl ?_
    refine WL.nil ?_
    refine WX.next ?_
    refine W.sub [(1, _), (6, _), (10, _)] (.cons rfl (.cons rfl (.cons rfl .nil))) ?_
    refine W.block ?_
    refine W.loop (ι := Nat × (Option Addr × Nat)) (fun z => [(1, .pointer (some ⟨g0_0, 0, none⟩)), (6, .slice z.2.1 (H ++ ((List.range z.1).map ws).flatMap fixed).length z.2.2), (10, .int .i64 (z.1 : Int))]) (fun zz w => Mem w0 w ((fun z => [Asr.own 5 1 z.2.1 (H ++ ((List.range z.1).map ws).flatMap fixed).length z.2.2 (bs (H ++ ((List.range z.1).map ws).flatMap fixed)), Asr.row g0_0 27 (PdX.cells ⟨op, now, flags, lun, tag, ws, ⟨A, cap, l⟩⟩)]) zz) ∧ (fun z => z.1 ≤ 7) zz) (fun z => 7 - z.1) ((0, (A13_2, cap13_2))) (by dsimp only; rw [List.range_zero, List.map_nil, List.flatMap_nil, List.append_nil]; exact (.cons rfl (.cons rfl (.cons rfl .nil)))) ⟨(by dsimp only; rw [List.range_zero, List.map_nil, List.flatMap_nil, List.append_nil]; exact M.sel (by first | ((repeat (first | with_reducible exact Sel.refl | with_reducible exact Sel.nil | with_reducible exact Del.here | with_reducible apply Del.there | with_reducible apply Sel.cons | with_reducible apply Sel.drop)); done) | (repeat (first | exact Sel.refl | exact Sel.nil | exact Del.here | apply Del.there | apply Sel.cons | apply Sel.drop)))), Nat.zero_le _⟩ ?_
    clear M; rintro (⟨i, ⟨B, cB⟩⟩) w ⟨M, hi7⟩; dsimp only at M hi7 ⊢
    unfold PdX.cells at M
    dsimp only at M
    refine W.sub [(1, _), (6, _), (10, _)] (.cons rfl (.cons rfl (.cons rfl .nil))) ?_
    refine W.seq ?_
    refine W.seq ?_
    refine W.region ?_
    refine WL.move rfl rfl ?_
    refine WL.lss rfl rfl rfl ?_
    refine WL.nil ?_
    refine WX.next ?_
    refine W.sub [(1, _), (6, _), (10, _), (50, _)] (.cons rfl (.cons rfl (.cons rfl (.cons rfl .nil)))) ?_
    refine W.ite rfl (fun c2 => ?_) (fun c2 => ?_)
    · have hi7' : i < 7 := by omega
      have hws := b3 i hi7'
      have hfl := flat_length ws i
      have hfs := flat_snoc ws i
      obtain ⟨F, hF⟩ : ∃ F, F = ((List.range i).map ws).flatMap fixed := ⟨_, rfl⟩
      rw [← hF] at M hfl hfs ⊢
      refine W.skip ?_
      refine WX.next ?_
      refine W.seq ?_
      refine W.block ?_
      refine W.seq ?_
      refine W.region ?_
      refine WL.move rfl rfl ?_
      refine WL.fieldR (off := 5) Try.underlying27 rfl rfl Try.sizeOf24 rfl rfl rfl ?_
      refine WL.idxArr Try.underlying24 Try.sizeOf23 rfl rfl (by omega) (by omega) (by first | exact rfl | exact (Int.toNat_of_nonneg (by omega)).symm) rfl ?_
      refine WL.load Try.isAgg23 rfl (by rw [Nat.mul_one]; exact row7 ⟨op, now, flags, lun, tag, ws, ⟨A, cap, l⟩⟩ M (by first | ((repeat (first | with_reducible exact Has.here | with_reducible refine Has.there ?_)); done) | (repeat (first | exact Has.here | refine Has.there ?_))) i (.int .u32 (ws i : Int)) (ws_get ws hi7')) rfl ?_
      refine WL.conv Try.underlying23 Try.underlying22 rfl (by first | exact wU64 (by omega) | exact mU64 _ | rfl) rfl ?_
      refine WL.call Try.call37 rfl (refPut19_ok (ws i) 4 (z := 4) rfl (by omega) (by decide) _) rfl ?_
      rintro _ w ⟨⟨A17, c17', x17⟩, rfl, h17, m⟩
      replace M := M.call1 m; clear m
      unfold OX.v
      unfold OX.O at M
      dsimp only at h17 M ⊢
      have hl17 : x17.length = 4 := by rw [h17, nb_length]
      refine WL.assign rfl rfl ?_
      refine WL.nil ?_
      refine WX.next ?_
      refine W.sub [(1, _), (6, _), (10, _), (11, _)] (.cons rfl (.cons rfl (.cons rfl (.cons rfl .nil)))) ?_
      refine W.region ?_
      refine WL.move rfl rfl ?_
      refine WL.move rfl rfl ?_
      refine WL.appendBH Try.elem5 rfl rfl M (by first | ((repeat (first | with_reducible exact Del.here | with_reducible apply Del.there)); done) | (repeat (first | exact Del.here | apply Del.there))) (by first | first | with_reducible assumption | with_reducible exact RdB.mem (by with_reducible assumption) M | exact M.rdB (by first | ((repeat (first | with_reducible exact Has.here | with_reducible refine Has.there ?_)); done) | (repeat (first | exact Has.here | refine Has.there ?_))) | exact RdH.at (by assumption) (M.sel (by first | ((repeat (first | with_reducible exact Sel.refl | with_reducible exact Sel.nil | with_reducible exact Del.here | with_reducible apply Del.there | with_reducible apply Sel.cons | with_reducible apply Sel.drop)); done) | (repeat (first | exact Sel.refl | exact Sel.nil | exact Del.here | apply Del.there | apply Sel.cons | apply Sel.drop)))) | exact M.rdLit' (by first | ((repeat (first | with_reducible exact Has.here | with_reducible refine Has.there ?_)); done) | (repeat (first | exact Has.here | refine Has.there ?_))) | exact M.rdLent (by first | ((repeat (first | with_reducible exact Has.here | with_reducible refine Has.there ?_)); done) | (repeat (first | exact Has.here | refine Has.there ?_))) | exact RdB.nil _ _ | exact RdB.sub (by first | with_reducible assumption | with_reducible exact RdB.mem (by with_reducible assumption) M | exact M.rdB (by first | ((repeat (first | with_reducible exact Has.here | with_reducible refine Has.there ?_)); done) | (repeat (first | exact Has.here | refine Has.there ?_))) | exact RdH.at (by assumption) (M.sel (by first | ((repeat (first | with_reducible exact Sel.refl | with_reducible exact Sel.nil | with_reducible exact Del.here | with_reducible apply Del.there | with_reducible apply Sel.cons | with_reducible apply Sel.drop)); done) | (repeat (first | exact Sel.refl | exact Sel.nil | exact Del.here | apply Del.there | apply Sel.cons | apply Sel.drop)))) | exact M.rdLit' (by first | ((repeat (first | with_reducible exact Has.here | with_reducible refine Has.there ?_)); done) | (repeat (first | exact Has.here | refine Has.there ?_))) | exact M.rdLent (by first | ((repeat (first | with_reducible exact Has.here | with_reducible refine Has.there ?_)); done) | (repeat (first | exact Has.here | refine Has.there ?_))) | exact RdB.nil _ _) (by omega) (by omega) | exact RdB.pre' (by first | with_reducible assumption | with_reducible exact RdB.mem (by with_reducible assumption) M | exact M.rdB (by first | ((repeat (first | with_reducible exact Has.here | with_reducible refine Has.there ?_)); done) | (repeat (first | exact Has.here | refine Has.there ?_))) | exact RdH.at (by assumption) (M.sel (by first | ((repeat (first | with_reducible exact Sel.refl | with_reducible exact Sel.nil | with_reducible exact Del.here | with_reducible apply Del.there | with_reducible apply Sel.cons | with_reducible apply Sel.drop)); done) | (repeat (first | exact Sel.refl | exact Sel.nil | exact Del.here | apply Del.there | apply Sel.cons | apply Sel.drop)))) | exact M.rdLit' (by first | ((repeat (first | with_reducible exact Has.here | with_reducible refine Has.there ?_)); done) | (repeat (first | exact Has.here | refine Has.there ?_))) | exact M.rdLent (by first | ((repeat (first | with_reducible exact Has.here | with_reducible refine Has.there ?_)); done) | (repeat (first | exact Has.here | refine Has.there ?_))) | exact RdB.nil _ _) (by omega) | exact RdB.suf (by first | with_reducible assumption | with_reducible exact RdB.mem (by with_reducible assumption) M | exact M.rdB (by first | ((repeat (first | with_reducible exact Has.here | with_reducible refine Has.there ?_)); done) | (repeat (first | exact Has.here | refine Has.there ?_))) | exact RdH.at (by assumption) (M.sel (by first | ((repeat (first | with_reducible exact Sel.refl | with_reducible exact Sel.nil | with_reducible exact Del.here | with_reducible apply Del.there | with_reducible apply Sel.cons | with_reducible apply Sel.drop)); done) | (repeat (first | exact Sel.refl | exact Sel.nil | exact Del.here | apply Del.there | apply Sel.cons | apply Sel.drop)))) | exact M.rdLit' (by first | ((repeat (first | with_reducible exact Has.here | with_reducible refine Has.there ?_)); done) | (repeat (first | exact Has.here | refine Has.there ?_))) | exact M.rdLent (by first | ((repeat (first | with_reducible exact Has.here | with_reducible refine Has.there ?_)); done) | (repeat (first | exact Has.here | refine Has.there ?_))) | exact RdB.nil _ _) (by omega)) rfl rfl (by rw [List.length_append, hHl, hfl, hl17]; omega) rfl ?_
      intro A18_2 cap18_2 w M
      refine WL.assign rfl rfl ?_
      refine WL.nil ?_
      refine WX.blockNormal ?_
      refine WX.next ?_
      refine W.sub [(1, _), (6, _), (10, _)] (.cons rfl (.cons rfl (.cons rfl .nil))) ?_
      refine W.region ?_
      refine WL.move rfl rfl ?_
      refine WL.add rfl rfl (by first | exact wI64 (by omega) | rfl) rfl ?_
      refine WL.assign rfl rfl ?_
      refine WL.nil ?_
      rw [h17, List.append_assoc, ← hfs] at M ⊢
      refine WX.round ((i + 1, (A18_2, cap18_2))) (by (repeat' (first | exact envSub.nil | refine envSub.cons ?_ ?_)) <;> first | rfl | (refine congrArg some ?_; refine congrArg (Value.int _) ?_; first | omega | (dsimp only; omega)) | (simp; done) | (refine congrArg some ?_; dsimp only; congr 1; omega) | (simp; omega)) ⟨M.sel (by first | ((repeat (first | with_reducible exact Sel.refl | with_reducible exact Sel.nil | with_reducible exact Del.here | with_reducible apply Del.there | with_reducible apply Sel.cons | with_reducible apply Sel.drop)); done) | (repeat (first | exact Sel.refl | exact Sel.nil | exact Del.here | apply Del.there | apply Sel.cons | apply Sel.drop))), (by dsimp only; omega)⟩ (by first | omega | (dsimp only; omega))
    · refine W.exit ?_
      refine WX.thenExit ?_
      refine WX.thenExit ?_
      refine WX.blockHere ?_
      refine WX.next ?_
      refine W.seq ?_
      obtain rfl : i = 7 := by omega
      have hfl := flat_length ws 7
      obtain ⟨F, hF⟩ : ∃ F, F = ((List.range 7).map ws).flatMap fixed := ⟨_, rfl⟩
      rw [← hF] at M hfl ⊢
      refine W.region ?_
      refine WL.move rfl rfl ?_
      refine WL.fieldR (off := 12) Try.underlying27 rfl rfl Try.sizeOf25 rfl rfl rfl ?_
      refine WL.loadR Try.isAgg25 rfl M (by first | ((repeat (first | with_reducible exact Has.here | with_reducible refine Has.there ?_)); done) | (repeat (first | exact Has.here | refine Has.there ?_))) rfl rfl ?_
      refine WL.appendBH Try.elem5 rfl rfl M (by first | ((repeat (first | with_reducible exact Del.here | with_reducible apply Del.there)); done) | (repeat (first | exact Del.here | apply Del.there))) (by first | first | with_reducible assumption | with_reducible exact RdB.mem (by with_reducible assumption) M | exact M.rdB (by first | ((repeat (first | with_reducible exact Has.here | with_reducible refine Has.there ?_)); done) | (repeat (first | exact Has.here | refine Has.there ?_))) | exact RdH.at (by assumption) (M.sel (by first | ((repeat (first | with_reducible exact Sel.refl | with_reducible exact Sel.nil | with_reducible exact Del.here | with_reducible apply Del.there | with_reducible apply Sel.cons | with_reducible apply Sel.drop)); done) | (repeat (first | exact Sel.refl | exact Sel.nil | exact Del.here | apply Del.there | apply Sel.cons | apply Sel.drop)))) | exact M.rdLit' (by first | ((repeat (first | with_reducible exact Has.here | with_reducible refine Has.there ?_)); done) | (repeat (first | exact Has.here | refine Has.there ?_))) | exact M.rdLent (by first | ((repeat (first | with_reducible exact Has.here | with_reducible refine Has.there ?_)); done) | (repeat (first | exact Has.here | refine Has.there ?_))) | exact RdB.nil _ _ | exact RdB.sub (by first | with_reducible assumption | with_reducible exact RdB.mem (by with_reducible assumption) M | exact M.rdB (by first | ((repeat (first | with_reducible exact Has.here | with_reducible refine Has.there ?_)); done) | (repeat (first | exact Has.here | refine Has.there ?_))) | exact RdH.at (by assumption) (M.sel (by first | ((repeat (first | with_reducible exact Sel.refl | with_reducible exact Sel.nil | with_reducible exact Del.here | with_reducible apply Del.there | with_reducible apply Sel.cons | with_reducible apply Sel.drop)); done) | (repeat (first | exact Sel.refl | exact Sel.nil | exact Del.here | apply Del.there | apply Sel.cons | apply Sel.drop)))) | exact M.rdLit' (by first | ((repeat (first | with_reducible exact Has.here | with_reducible refine Has.there ?_)); done) | (repeat (first | exact Has.here | refine Has.there ?_))) | exact M.rdLent (by first | ((repeat (first | with_reducible exact Has.here | with_reducible refine Has.there ?_)); done) | (repeat (first | exact Has.here | refine Has.there ?_))) | exact RdB.nil _ _) (by omega) (by omega) | exact RdB.pre' (by first | with_reducible assumption | with_reducible exact RdB.mem (by with_reducible assumption) M | exact M.rdB (by first | ((repeat (first | with_reducible exact Has.here | with_reducible refine Has.there ?_)); done) | (repeat (first | exact Has.here | refine Has.there ?_))) | exact RdH.at (by assumption) (M.sel (by first | ((repeat (first | with_reducible exact Sel.refl | with_reducible exact Sel.nil | with_reducible exact Del.here | with_reducible apply Del.there | with_reducible apply Sel.cons | with_reducible apply Sel.drop)); done) | (repeat (first | exact Sel.refl | exact Sel.nil | exact Del.here | apply Del.there | apply Sel.cons | apply Sel.drop)))) | exact M.rdLit' (by first | ((repeat (first | with_reducible exact Has.here | with_reducible refine Has.there ?_)); done) | (repeat (first | exact Has.here | refine Has.there ?_))) | exact M.rdLent (by first | ((repeat (first | with_reducible exact Has.here | with_reducible refine Has.there ?_)); done) | (repeat (first | exact Has.here | refine Has.there ?_))) | exact RdB.nil _ _) (by omega) | exact RdB.suf (by first | with_reducible assumption | with_reducible exact RdB.mem (by with_reducible assumption) M | exact M.rdB (by first | ((repeat (first | with_reducible exact Has.here | with_reducible refine Has.there ?_)); done) | (repeat (first | exact Has.here | refine Has.there ?_))) | exact RdH.at (by assumption) (M.sel (by first | ((repeat (first | with_reducible exact Sel.refl | with_reducible exact Sel.nil | with_reducible exact Del.here | with_reducible apply Del.there | with_reducible apply Sel.cons | with_reducible apply Sel.drop)); done) | (repeat (first | exact Sel.refl | exact Sel.nil | exact Del.here | apply Del.there | apply Sel.cons | apply Sel.drop)))) | exact M.rdLit' (by first | ((repeat (first | with_reducible exact Has.here | with_reducible refine Has.there ?_)); done) | (repeat (first | exact Has.here | refine Has.there ?_))) | exact M.rdLent (by first | ((repeat (first | with_reducible exact Has.here | with_reducible refine Has.there ?_)); done) | (repeat (first | exact Has.here | refine Has.there ?_))) | exact RdB.nil _ _) (by omega)) rfl rfl (by rw [List.length_append, hHl, hfl]; omega) rfl ?_
      intro A19_3 cap19_3 w M
      refine WL.assign rfl rfl ?_
      obtain ⟨T, hT⟩ : ∃ T, T = (H ++ F) ++ l := ⟨_, rfl⟩
      have hTl : T.length = 48 + l.length := by rw [hT, List.length_append, List.length_append, hHl, hfl]
      rw [← hT] at M ⊢
      have hpd : padN l.length = (4 - l.length % 4) % 4 := rfl
      refine WL.nil ?_
      refine WX.next ?_
      refine W.sub [(6, _)] (.cons rfl .nil) ?_
      refine W.seq ?_
      refine W.block ?_
      refine W.loop (ι := Nat × (Option Addr × Nat)) (fun z => [(6, .slice z.2.1 (T ++ List.replicate z.1 0).length z.2.2)]) (fun zz w => Mem w0 w ((fun z => [Asr.own 5 1 z.2.1 (T ++ List.replicate z.1 0).length z.2.2 (bs (T ++ List.replicate z.1 0))]) zz) ∧ (fun z => z.1 ≤ padN l.length) zz) (fun z => padN l.length - z.1) ((0, (A19_3, cap19_3))) (by dsimp only; rw [List.replicate_zero, List.append_nil]; exact (.cons rfl .nil)) ⟨(by dsimp only; rw [List.replicate_zero, List.append_nil]; exact M.sel (by first | ((repeat (first | with_reducible exact Sel.refl | with_reducible exact Sel.nil | with_reducible exact Del.here | with_reducible apply Del.there | with_reducible apply Sel.cons | with_reducible apply Sel.drop)); done) | (repeat (first | exact Sel.refl | exact Sel.nil | exact Del.here | apply Del.there | apply Sel.cons | apply Sel.drop)))), Nat.zero_le _⟩ ?_
      clear M; rintro (⟨j, ⟨D, cD⟩⟩) w ⟨M, hj⟩; dsimp only at M hj ⊢
      have hjl : (T ++ List.replicate j (0 : UInt8)).length = 48 + l.length + j := by rw [List.length_append, List.length_replicate, hTl]
      refine W.sub [(6, _)] (.cons rfl .nil) ?_
      refine W.seq ?_
      refine W.seq ?_
      refine W.region ?_
      refine WL.move rfl rfl ?_
      refine WL.len Try.underlying25 rfl rfl ?_
      refine WL.rem rfl rfl (by omega) (remN (by omega)) rfl ?_
      refine WL.neI rfl rfl rfl ?_
      refine WL.nil ?_
      refine WX.next ?_
      refine W.sub [(6, _), (69, _)] (.cons rfl (.cons rfl .nil)) ?_
      refine W.ite rfl (fun c3 => ?_) (fun c3 => ?_)
      · refine W.skip ?_
        refine WX.next ?_
        refine W.block ?_
        refine W.region ?_
        refine WL.move rfl rfl ?_
        refine WL.buildB (es := [_]) Try.elem5 M rfl rfl (by apply BytesOf.lit (b := 0) (by decide); exact BytesOf.nil) (by rfl) rfl rfl ?_
        intro g21_1 w M
        refine WL.appendBH Try.elem5 rfl rfl M (by first | ((repeat (first | with_reducible exact Del.here | with_reducible apply Del.there)); done) | (repeat (first | exact Del.here | apply Del.there))) (by first | first | with_reducible assumption | with_reducible exact RdB.mem (by with_reducible assumption) M | exact M.rdB (by first | ((repeat (first | with_reducible exact Has.here | with_reducible refine Has.there ?_)); done) | (repeat (first | exact Has.here | refine Has.there ?_))) | exact RdH.at (by assumption) (M.sel (by first | ((repeat (first | with_reducible exact Sel.refl | with_reducible exact Sel.nil | with_reducible exact Del.here | with_reducible apply Del.there | with_reducible apply Sel.cons | with_reducible apply Sel.drop)); done) | (repeat (first | exact Sel.refl | exact Sel.nil | exact Del.here | apply Del.there | apply Sel.cons | apply Sel.drop)))) | exact M.rdLit' (by first | ((repeat (first | with_reducible exact Has.here | with_reducible refine Has.there ?_)); done) | (repeat (first | exact Has.here | refine Has.there ?_))) | exact M.rdLent (by first | ((repeat (first | with_reducible exact Has.here | with_reducible refine Has.there ?_)); done) | (repeat (first | exact Has.here | refine Has.there ?_))) | exact RdB.nil _ _ | exact RdB.sub (by first | with_reducible assumption | with_reducible exact RdB.mem (by with_reducible assumption) M | exact M.rdB (by first | ((repeat (first | with_reducible exact Has.here | with_reducible refine Has.there ?_)); done) | (repeat (first | exact Has.here | refine Has.there ?_))) | exact RdH.at (by assumption) (M.sel (by first | ((repeat (first | with_reducible exact Sel.refl | with_reducible exact Sel.nil | with_reducible exact Del.here | with_reducible apply Del.there | with_reducible apply Sel.cons | with_reducible apply Sel.drop)); done) | (repeat (first | exact Sel.refl | exact Sel.nil | exact Del.here | apply Del.there | apply Sel.cons | apply Sel.drop)))) | exact M.rdLit' (by first | ((repeat (first | with_reducible exact Has.here | with_reducible refine Has.there ?_)); done) | (repeat (first | exact Has.here | refine Has.there ?_))) | exact M.rdLent (by first | ((repeat (first | with_reducible exact Has.here | with_reducible refine Has.there ?_)); done) | (repeat (first | exact Has.here | refine Has.there ?_))) | exact RdB.nil _ _) (by omega) (by omega) | exact RdB.pre' (by first | with_reducible assumption | with_reducible exact RdB.mem (by with_reducible assumption) M | exact M.rdB (by first | ((repeat (first | with_reducible exact Has.here | with_reducible refine Has.there ?_)); done) | (repeat (first | exact Has.here | refine Has.there ?_))) | exact RdH.at (by assumption) (M.sel (by first | ((repeat (first | with_reducible exact Sel.refl | with_reducible exact Sel.nil | with_reducible exact Del.here | with_reducible apply Del.there | with_reducible apply Sel.cons | with_reducible apply Sel.drop)); done) | (repeat (first | exact Sel.refl | exact Sel.nil | exact Del.here | apply Del.there | apply Sel.cons | apply Sel.drop)))) | exact M.rdLit' (by first | ((repeat (first | with_reducible exact Has.here | with_reducible refine Has.there ?_)); done) | (repeat (first | exact Has.here | refine Has.there ?_))) | exact M.rdLent (by first | ((repeat (first | with_reducible exact Has.here | with_reducible refine Has.there ?_)); done) | (repeat (first | exact Has.here | refine Has.there ?_))) | exact RdB.nil _ _) (by omega) | exact RdB.suf (by first | with_reducible assumption | with_reducible exact RdB.mem (by with_reducible assumption) M | exact M.rdB (by first | ((repeat (first | with_reducible exact Has.here | with_reducible refine Has.there ?_)); done) | (repeat (first | exact Has.here | refine Has.there ?_))) | exact RdH.at (by assumption) (M.sel (by first | ((repeat (first | with_reducible exact Sel.refl | with_reducible exact Sel.nil | with_reducible exact Del.here | with_reducible apply Del.there | with_reducible apply Sel.cons | with_reducible apply Sel.drop)); done) | (repeat (first | exact Sel.refl | exact Sel.nil | exact Del.here | apply Del.there | apply Sel.cons | apply Sel.drop)))) | exact M.rdLit' (by first | ((repeat (first | with_reducible exact Has.here | with_reducible refine Has.there ?_)); done) | (repeat (first | exact Has.here | refine Has.there ?_))) | exact M.rdLent (by first | ((repeat (first | with_reducible exact Has.here | with_reducible refine Has.there ?_)); done) | (repeat (first | exact Has.here | refine Has.there ?_))) | exact RdB.nil _ _) (by omega)) rfl rfl (by rw [hjl]; simp; omega) rfl ?_
        intro A21_2 cap21_2 w M
        refine WL.assign rfl rfl ?_
        refine WL.nil ?_
        refine WX.blockNormal ?_
        rw [List.append_assoc, ← List.replicate_succ'] at M ⊢
        refine WX.round ((j + 1, (A21_2, cap21_2))) (by (repeat' (first | exact envSub.nil | refine envSub.cons ?_ ?_)) <;> first | rfl | (refine congrArg some ?_; refine congrArg (Value.int _) ?_; first | omega | (dsimp only; omega)) | (simp; done) | (refine congrArg some ?_; dsimp only; congr 1; omega) | (simp; omega)) ⟨M.sel (by first | ((repeat (first | with_reducible exact Sel.refl | with_reducible exact Sel.nil | with_reducible exact Del.here | with_reducible apply Del.there | with_reducible apply Sel.cons | with_reducible apply Sel.drop)); done) | (repeat (first | exact Sel.refl | exact Sel.nil | exact Del.here | apply Del.there | apply Sel.cons | apply Sel.drop))), (by dsimp only; omega)⟩ (by first | omega | (dsimp only; omega))
      · refine W.exit ?_
        refine WX.thenExit ?_
        refine WX.thenExit ?_
        refine WX.blockHere ?_
        refine WX.next ?_
        refine W.seq ?_
        refine W.region ?_
        refine WL.move rfl rfl ?_
        refine WL.assign rfl rfl ?_
        refine WL.assign rfl rfl ?_
        refine WL.nil ?_
        refine WX.next ?_
        refine W.sub [(2, _), (3, _)] (.cons rfl (.cons rfl .nil)) ?_
        refine W.ret ?_
        refine WX.ret2 rfl rfl rfl ?_
        obtain rfl : j = padN l.length := by omega
        exact ⟨⟨D, cD, T ++ List.replicate (padN l.length) 0⟩, by rw [hc], M.sel (by first | ((repeat (first | with_reducible exact Sel.refl | with_reducible exact Sel.nil | with_reducible exact Del.here | with_reducible apply Del.there | with_reducible apply Sel.cons | with_reducible apply Sel.drop)); done) | (repeat (first | exact Sel.refl | exact Sel.nil | exact Del.here | apply Del.there | apply Sel.cons | apply Sel.drop))), fun _ => by dsimp only; rw [hT, hF, hH]; rfl, fun h => absurd hc h⟩
end Go.Proofs.Ytinbcidgdbmcjaa
