/-
  Walks: are two commands the same; the command of a message (pdu, seawallref20).
-/
import Derived.Laws.StructEq
import Derived.Test.YtinbcidgdbmcjaaCdb6
import Derived.Test.YtinbcidgdbmcjaaPduRef2
namespace Go.Proofs.Ytinbcidgdbmcjaa
open Go Go.RowKit Bin

theorem eqCmds (w : World) (a b : CmX) : (Op.equalIn 10000 36 a.v b.v).run Try.prog w = .ok (decide (a = b)) w := by
  have h1 : Try.prog.underlying 36 = some (.struct (Try.prog.fieldsOf 36)) := by kernel_rfl
  have h2 : Try.prog.stoodInHeld 36 = false := by kernel_rfl
  unfold CmX.v
  rw [show (10000 : Nat) = 9999 + 1 from rfl, run_equalIn_agg w 9999 _ _ _ h1 h2]
  obtain ⟨a1, a2, a3, a4⟩ := a
  obtain ⟨b1, b2, b3, b4⟩ := b
  unfold Program.fieldsOf
  rw [Try.underlying36]
  have q1 : ∀ (w : World) (a b : Int), (Op.equalIn 9999 3 (.int .i64 a) (.int .i64 b)).run Try.prog w = .ok (a == b) w := fun w a b => run_equalIn_int w 9998 _ _ _ _ _ Try.underlying3
  have q2 : ∀ (w : World) (a b : Int), (Op.equalIn 9999 22 (.int .u64 a) (.int .u64 b)).run Try.prog w = .ok (a == b) w := fun w a b => run_equalIn_int w 9998 _ _ _ _ _ Try.underlying22
  have z1 : ∀ w, (isAgg 3).run Try.prog w = .ok false w := Try.isAgg3
  have z2 : ∀ w, (isAgg 22).run Try.prog w = .ok false w := Try.isAgg22
  simp [Op.eqFields, part, q1, q2, z1, z2]
  by_cases e1 : a1 = b1
  · by_cases e2 : a2 = b2
    · by_cases e3 : a3 = b3
      · by_cases e4 : a4 = b4
        · simp [e1, e2, e3, e4]
        · simp [e1, e2, e3, e4]
      · simp [e1, e2, e3]
    · simp [e1, e2]
      try omega
  · simp [e1]
/-- Are two commands the same? -/
theorem WL.eqlC {n : Nat} {ρ : List (Nat × Value)} {w : World} {rest : List Oper} {X : SqV Try.prog n} {d : Nat} {ty : TypeId} {pos : String} {aft : Array Edge} {x y : Operand} {t' : TypeId} (a b : CmX)
    (hx : ev ρ x = some a.v) (hy : ev ρ y = some b.v) (hd : Nat.blt d n = true) (kk : X.S rest ((d, .bool (decide (a = b))) :: ρ) w) : X.S (⟨some d, .binOp .eql 36 x y t', ty, pos, aft, none⟩ :: rest) ρ w := by
  refine WL.val rfl rfl hd (fun f hf => ?_) kk
  have hg := run_eqGuard_agg (P := Try.prog) w .eql 36 x y #[.int .i64 a.op, .int .u64 (a.lba : Int), .int .i64 a.count, .int .i64 a.room] #[.int .i64 b.op, .int .u64 (b.lba : Int), .int .i64 b.count, .int .i64 b.room] (by kernel_rfl)
  have he := eqCmds w a b
  have hb := run_eql_struct (P := Try.prog) w 36 #[.int .i64 a.op, .int .u64 (a.lba : Int), .int .i64 a.count, .int .i64 a.room] #[.int .i64 b.op, .int .u64 (b.lba : Int), .int .i64 b.count, .int .i64 b.room]
  unfold CmX.v at he hx hy
  rw [he] at hb
  simp [execOp, hf.eval hx, hf.eval hy, hg, hb]
section
variable {P : Program} {n : Nat} {ρ : List (Nat × Value)} {w : World} {rest : List Oper} {X : SqV P n}
variable {d : Nat} {ty : TypeId} {pos : String} {aft : Array Edge} {x lo : Operand} {t e : TypeId}
/-- An array from one place on. -/
theorem WL.sliceArrL {g o q an m size : Nat} {kl : IntKind} (ht : P.underlying t = some (.array m e)) (hs : ∀ w, (sizeOf e).run P w = .ok size w) (hx : ev ρ x = some (.pointer (some ⟨g, o, none⟩))) (hl : ev ρ lo = some (.int kl (an : Int))) (hq : q = o + an * size) (hm : an < m) (hd : Nat.blt d n = true)
    (kk : X.S rest ((d, .slice (some ⟨g, q, none⟩) (m - an) (m - an)) :: ρ) w) : X.S (⟨some d, .slice t x (some lo) none none, ty, pos, aft, none⟩ :: rest) ρ w := by
  subst hq
  have h1 : an ≤ m := by omega
  have h2 : ¬ m = an := by omega
  refine WL.val rfl rfl hd (fun f hf => ?_) kk
  simp [execOp, hf.eval hx, hf.eval hl, Instr.sliceAt, Instr.sureAddr, run_underlying ht, Instr.sliceBounds, run_sliceBound, hs, h1, h2, add_lit]
end
/-- The command's bytes in a message's words. -/
def cmdB (ws : Nat → Nat) : List UInt8 := [ws 3, ws 4, ws 5, ws 6].flatMap fixed
theorem cmdB_length (ws : Nat → Nat) : (cmdB ws).length = 16 := rfl
def comE (p : MX) : Int := if p.op = 1 then prsE (cmdB p.ws) else 190
def comC (p : MX) : CmX := if p.op = 1 then prsC (cmdB p.ws) else ⟨0, 0, 0, 0⟩
theorem words_row3 {w0 w : World} {L : List Asr} {g : Nat} (p : PdX) (M : Mem w0 w L) (h : Has (Asr.row g 27 p.cells) L) : RdL w u32E (some ⟨g, 8, none⟩) 4 [p.ws 3, p.ws 4, p.ws 5, p.ws 6] := by
  refine ⟨rfl, Nat.le_refl _, fun _ => ⟨_, rfl, ?_, fun j v hv => ?_⟩⟩
  · obtain ⟨L', hd⟩ := h.del
    exact (Array.getElem?_eq_some_iff.1 (M.del hd).head).1
  · have hj : j < 4 := (List.getElem?_eq_some_iff.1 hv).1
    rw [add_lit, M.cellH h]
    match j, hj with
    | 0, _ => exact hv
    | 1, _ => exact hv
    | 2, _ => exact hv
    | 3, _ => exact hv
theorem Command_ok (p : PdX) (w0 : World) : Fn Try.prog 13 [p.v] w0 fun v w' => v = .tuple #[(comC p.m).v, .int .i64 (comE p.m)] ∧ Mem w0 w' [] := by
  have M := Mem.refl w0
  obtain ⟨w, hw⟩ : ∃ w, w = w0 := ⟨w0, rfl⟩
  obtain ⟨op, now, flags, lun, tag, ws, ⟨A, cap, l⟩⟩ := p
  unfold PdX.v
  dsimp only [PdX.m]
  refine Fn.enter Try.func13 rfl Try.ntmps13 rfl ?_
  refine W.sub [(0, _)] (.cons rfl .nil) ?_
  refine W.seq ?_
  refine W.region ?_
  refine WL.box rfl M rfl ?_
  intro g0_0 w M
  try simp only [Value.cells] at M
  try simp only [List.toList_toArray] at M
  refine WL.alloc Try.zeroValue36 M rfl ?_
  intro g0_1 w M
  try simp only [Value.cells] at M
  try simp only [List.toList_toArray] at M
  refine WL.assign rfl rfl ?_
  refine WL.nil ?_
  refine WX.next ?_
  refine W.sub [(1, _), (2, _)] (.cons rfl (.cons rfl .nil)) ?_
  refine W.seq ?_
  refine W.seq ?_
  refine W.region ?_
  refine WL.fieldR (off := 0) Try.underlying27 rfl rfl Try.sizeOf3 rfl rfl rfl ?_
  refine WL.loadR Try.isAgg3 rfl M (by first | ((repeat (first | with_reducible exact Has.here | with_reducible refine Has.there ?_)); done) | (repeat (first | exact Has.here | refine Has.there ?_))) rfl rfl ?_
  refine WL.neI rfl rfl rfl ?_
  refine WL.nil ?_
  refine WX.next ?_
  refine W.sub [(1, _), (2, _), (6, _)] (.cons rfl (.cons rfl (.cons rfl .nil))) ?_
  refine W.ite rfl (fun c0 => ?_) (fun c0 => ?_)
  · refine W.seq ?_
    refine W.region ?_
    refine WL.buildP (places := #[(0, 1), (1, 1), (2, 1), (3, 1)]) Try.underlying36 Try.zeroValue36 (fun _ => by simp [Try.sizeOf3, Try.sizeOf22, Try.sizeOf3, Try.sizeOf3]) rfl (by repeat (first | exact Puts.nil | exact SetAt.zero | apply SetAt.succ | apply Puts.cons rfl rfl)) rfl ?_
    refine WL.storeWA Try.sizeOf36 rfl rfl (by repeat (first | exact oneNil | refine oneCons rfl ?_)) rfl rfl M (by first | ((repeat (first | with_reducible exact Upd.here | with_reducible apply Upd.there)); done) | (repeat (first | exact Upd.here | apply Upd.there))) ?_
    intro w M
    refine WL.assign rfl rfl ?_
    refine WL.nil ?_
    refine WX.next ?_
    refine W.sub [(2, _), (3, _)] (.cons rfl (.cons rfl .nil)) ?_
    refine W.ret ?_
    refine WX.thenRet ?_
    refine WX.retC2 (cs := [_, _, _, _]) rfl rfl rfl Try.isAgg36 (by exact Try.sizeOf36) (M.cellsH (by first | ((repeat (first | with_reducible exact Has.here | with_reducible refine Has.there ?_)); done) | (repeat (first | exact Has.here | refine Has.there ?_)))) ?_
    exact ⟨by unfold comC comE; rw [if_neg c0, if_neg c0]; rfl, M.sel (by first | ((repeat (first | with_reducible exact Sel.refl | with_reducible exact Sel.nil | with_reducible exact Del.here | with_reducible apply Del.there | with_reducible apply Sel.cons | with_reducible apply Sel.drop)); done) | (repeat (first | exact Sel.refl | exact Sel.nil | exact Del.here | apply Del.there | apply Sel.cons | apply Sel.drop)))⟩
  · refine W.skip ?_
    refine WX.next ?_
    refine W.seq ?_
    have M2 : Mem w0 _ (Asr.own 5 1 none 0 0 (bs []) :: _) := M.nilOwn 5 1
    replace M := M2
    refine W.region ?_
    refine WL.fieldR (off := 5) Try.underlying27 rfl rfl Try.sizeOf24 rfl rfl rfl ?_
    refine WL.sliceArrL (q := 8) (an := 3) Try.underlying24 Try.sizeOf23 rfl rfl rfl (by decide) rfl ?_
    refine WL.call Try.call35 rfl (words_ok ⟨none, 0, []⟩ (ls := [ws 3, ws 4, ws 5, ws 6]) w0 _ _ _ M (by first | ((repeat (first | with_reducible exact Del.here | with_reducible apply Del.there)); done) | (repeat (first | exact Del.here | apply Del.there))) (by intro w M; exact words_row3 ⟨op, now, flags, lun, tag, ws, ⟨A, cap, l⟩⟩ M (by first | ((repeat (first | with_reducible exact Has.here | with_reducible refine Has.there ?_)); done) | (repeat (first | exact Has.here | refine Has.there ?_)))) (by simp) (by simp)) rfl ?_
    rintro _ w ⟨⟨C, cC, m⟩, rfl, hm, M⟩
    unfold OX.O at M
    unfold OX.v
    dsimp only [List.nil_append] at hm M ⊢
    have hm2 : m = cmdB ws := hm
    clear hm
    have hml : m.length = 16 := by rw [hm2]; rfl
    refine WL.call Try.call38 rfl (cParse_ok (b := m) (by omega) (M.rdB (by first | ((repeat (first | with_reducible exact Has.here | with_reducible refine Has.there ?_)); done) | (repeat (first | exact Has.here | refine Has.there ?_))))) rfl ?_
    rintro _ w ⟨rfl, m'⟩
    replace M := M.call0 m'; clear m'
    rw [hm2]
    unfold CmX.v
    refine WL.extractL rfl rfl rfl ?_
    refine WL.extractL rfl rfl rfl ?_
    refine WL.storeWA Try.sizeOf36 rfl rfl (by repeat (first | exact oneNil | refine oneCons rfl ?_)) rfl rfl M (by first | ((repeat (first | with_reducible exact Upd.here | with_reducible apply Upd.there)); done) | (repeat (first | exact Upd.here | apply Upd.there))) ?_
    intro w M
    refine WL.assign rfl rfl ?_
    refine WL.nil ?_
    refine WX.next ?_
    refine W.sub [(2, _), (3, _)] (.cons rfl (.cons rfl .nil)) ?_
    refine W.ret ?_
    refine WX.retC2 (cs := [_, _, _, _]) rfl rfl rfl Try.isAgg36 (by exact Try.sizeOf36) (M.cellsH (by first | ((repeat (first | with_reducible exact Has.here | with_reducible refine Has.there ?_)); done) | (repeat (first | exact Has.here | refine Has.there ?_)))) ?_
    have h1 : op = 1 := Classical.not_not.1 c0
    exact ⟨by unfold comC comE; rw [if_pos h1, if_pos h1], M.sel (by first | ((repeat (first | with_reducible exact Sel.refl | with_reducible exact Sel.nil | with_reducible exact Del.here | with_reducible apply Del.there | with_reducible apply Sel.cons | with_reducible apply Sel.drop)); done) | (repeat (first | exact Sel.refl | exact Sel.nil | exact Del.here | apply Del.there | apply Sel.cons | apply Sel.drop)))⟩
theorem ws_get3 (ws : Nat → Nat) {i : Nat} (h : i < 4) : ((List.range (i + 1)).map fun k => ws (3 + k)).flatMap fixed = ((List.range i).map fun k => ws (3 + k)).flatMap fixed ++ nb (ws (3 + i)) 4 := flat_snoc (fun k => ws (3 + k)) i
theorem refCommand_ok (p : PdX) (hi : p.m.inn) (w0 : World) : Fn Try.prog 14 [p.v] w0 fun v w' => v = .tuple #[(comC p.m).v, .int .i64 (comE p.m)] ∧ Mem w0 w' [] := by
  have M := Mem.refl w0
  obtain ⟨w, hw⟩ : ∃ w, w = w0 := ⟨w0, rfl⟩
  obtain ⟨op, now, flags, lun, tag, ws, ⟨A, cap, l⟩⟩ := p
  obtain ⟨b1, b2, b3⟩ := hi
  unfold PdX.v
  dsimp only [PdX.m] at b1 b2 b3 ⊢
  refine Fn.enter Try.func14 rfl Try.ntmps14 rfl ?_
  refine W.sub [(0, _)] (.cons rfl .nil) ?_
  refine W.seq ?_
  refine W.region ?_
  refine WL.box rfl M rfl ?_
  intro g0_0 w M
  try simp only [Value.cells] at M
  try simp only [List.toList_toArray] at M
  refine WL.alloc Try.zeroValue36 M rfl ?_
  intro g0_1 w M
  try simp only [Value.cells] at M
  try simp only [List.toList_toArray] at M
  refine WL.assign rfl rfl ?_
  refine WL.nil ?_
  refine WX.next ?_
  refine W.sub [(1, _), (2, _)] (.cons rfl (.cons rfl .nil)) ?_
  refine W.seq ?_
  refine W.seq ?_
  refine W.region ?_
  refine WL.fieldR (off := 0) Try.underlying27 rfl rfl Try.sizeOf3 rfl rfl rfl ?_
  refine WL.loadR Try.isAgg3 rfl M (by first | ((repeat (first | with_reducible exact Has.here | with_reducible refine Has.there ?_)); done) | (repeat (first | exact Has.here | refine Has.there ?_))) rfl rfl ?_
  refine WL.neI rfl rfl rfl ?_
  refine WL.nil ?_
  refine WX.next ?_
  refine W.sub [(1, _), (2, _), (9, _)] (.cons rfl (.cons rfl (.cons rfl .nil))) ?_
  refine W.ite rfl (fun c0 => ?_) (fun c0 => ?_)
  · refine W.seq ?_
    refine W.region ?_
    refine WL.buildP (places := #[(0, 1), (1, 1), (2, 1), (3, 1)]) Try.underlying36 Try.zeroValue36 (fun _ => by simp [Try.sizeOf3, Try.sizeOf22, Try.sizeOf3, Try.sizeOf3]) rfl (by repeat (first | exact Puts.nil | exact SetAt.zero | apply SetAt.succ | apply Puts.cons rfl rfl)) rfl ?_
    refine WL.storeWA Try.sizeOf36 rfl rfl (by repeat (first | exact oneNil | refine oneCons rfl ?_)) rfl rfl M (by first | ((repeat (first | with_reducible exact Upd.here | with_reducible apply Upd.there)); done) | (repeat (first | exact Upd.here | apply Upd.there))) ?_
    intro w M
    refine WL.assign rfl rfl ?_
    refine WL.nil ?_
    refine WX.next ?_
    refine W.sub [(2, _), (3, _)] (.cons rfl (.cons rfl .nil)) ?_
    refine W.ret ?_
    refine WX.thenRet ?_
    refine WX.retC2 (cs := [_, _, _, _]) rfl rfl rfl Try.isAgg36 (by exact Try.sizeOf36) (M.cellsH (by first | ((repeat (first | with_reducible exact Has.here | with_reducible refine Has.there ?_)); done) | (repeat (first | exact Has.here | refine Has.there ?_)))) ?_
    exact ⟨by unfold comC comE; rw [if_neg c0, if_neg c0]; rfl, M.sel (by first | ((repeat (first | with_reducible exact Sel.refl | with_reducible exact Sel.nil | with_reducible exact Del.here | with_reducible apply Del.there | with_reducible apply Sel.cons | with_reducible apply Sel.drop)); done) | (repeat (first | exact Sel.refl | exact Sel.nil | exact Del.here | apply Del.there | apply Sel.cons | apply Sel.drop)))⟩
  · refine W.skip ?_
    refine WX.next ?_
    refine W.seq ?_
    refine W.region ?_
    refine WL.assign rfl rfl ?_
    refine WL.nil ?_
    refine WX.next ?_
    refine W.sub [(1, _), (2, _), (4, _)] (.cons rfl (.cons rfl (.cons rfl .nil))) ?_
    refine W.seq ?_
    refine W.seq ?_
    have M2 : Mem w0 _ (Asr.own 5 1 none 0 0 (bs []) :: _) := M.nilOwn 5 1
    replace M := M2
    refine W.region ?_
    refine WL.assign rfl rfl ?_
    refine WL.nil ?_
    refine WX.next ?_
    refine W.sub [(1, _), (2, _), (4, _), (5, _)] (.cons rfl (.cons rfl (.cons rfl (.cons rfl .nil)))) ?_
    refine W.block ?_
    refine W.loop (ι := Nat × OX) (fun z => [(1, .pointer (some ⟨g0_0, 0, none⟩)), (2, .pointer (some ⟨g0_1, 0, none⟩)), (4, .slice z.2.A z.2.l.length z.2.cap), (5, .int .i64 (3 + (z.1 : Int)))]) (fun zz w => Mem w0 w ((fun z => [Asr.own 5 1 z.2.A z.2.l.length z.2.cap (bs z.2.l), Asr.row g0_1 36 [.int .i64 0, .int .u64 0, .int .i64 0, .int .i64 0], Asr.row g0_0 27 [.int .i64 op, .bool now, .int .u8 (flags.toNat : Int), .int .u64 (lun : Int), .int .u32 (tag : Int), .int .u32 (ws 0 : Int), .int .u32 (ws 1 : Int), .int .u32 (ws 2 : Int), .int .u32 (ws 3 : Int), .int .u32 (ws 4 : Int), .int .u32 (ws 5 : Int), .int .u32 (ws 6 : Int), .slice A l.length cap]]) zz) ∧ (fun z => z.1 ≤ 4 ∧ z.2.l = ((List.range z.1).map fun k => ws (3 + k)).flatMap fixed) zz) (fun z => 4 - z.1) ((0, ⟨none, 0, []⟩)) (by (repeat' (first | exact envSub.nil | refine envSub.cons ?_ ?_)) <;> first | rfl | (refine congrArg some ?_; refine congrArg (Value.int _) ?_; first | omega | (dsimp only; omega)) | (simp; done) | (refine congrArg some ?_; dsimp only; congr 1; omega) | (simp; omega)) ⟨M.sel (by first | ((repeat (first | with_reducible exact Sel.refl | with_reducible exact Sel.nil | with_reducible exact Del.here | with_reducible apply Del.there | with_reducible apply Sel.cons | with_reducible apply Sel.drop)); done) | (repeat (first | exact Sel.refl | exact Sel.nil | exact Del.here | apply Del.there | apply Sel.cons | apply Sel.drop))), ⟨Nat.zero_le _, rfl⟩⟩ ?_
    clear M; rintro (⟨i, ⟨B, cB, m⟩⟩) w ⟨M, ⟨hi, hm⟩⟩; dsimp only at M hi hm ⊢
    refine W.sub [(1, _), (2, _), (4, _), (5, _)] (.cons rfl (.cons rfl (.cons rfl (.cons rfl .nil)))) ?_
    refine W.seq ?_
    refine W.seq ?_
    refine W.region ?_
    refine WL.move rfl rfl ?_
    refine WL.lss rfl rfl rfl ?_
    refine WL.nil ?_
    refine WX.next ?_
    refine W.sub [(1, _), (2, _), (4, _), (5, _), (12, _)] (.cons rfl (.cons rfl (.cons rfl (.cons rfl (.cons rfl .nil))))) ?_
    refine W.ite rfl (fun c1 => ?_) (fun c1 => ?_)
    · have hi4 : i < 4 := by omega
      have hws := b3 (3 + i) (by omega)
      have hfl := flat_length (fun k => ws (3 + k)) i
      rw [← hm] at hfl
      have hfs := ws_get3 ws hi4
      rw [← hm] at hfs
      refine W.skip ?_
      refine WX.next ?_
      refine W.seq ?_
      refine W.block ?_
      refine W.seq ?_
      refine W.region ?_
      refine WL.move rfl rfl ?_
      refine WL.fieldR (off := 5) Try.underlying27 rfl rfl Try.sizeOf24 rfl rfl rfl ?_
      refine WL.idxArr Try.underlying24 Try.sizeOf23 rfl rfl (by omega) (by omega) (show (3 : Int) + (i : Int) = ((3 + i : Nat) : Int) by omega) rfl ?_
      refine WL.load Try.isAgg23 rfl (by rw [Nat.mul_one]; exact row7 ⟨op, now, flags, lun, tag, ws, ⟨A, cap, l⟩⟩ M (by first | ((repeat (first | with_reducible exact Has.here | with_reducible refine Has.there ?_)); done) | (repeat (first | exact Has.here | refine Has.there ?_))) (3 + i) (.int .u32 (ws (3 + i) : Int)) (ws_get ws (by omega))) rfl ?_
      refine WL.conv Try.underlying23 Try.underlying22 rfl (by first | exact wU64 (by omega) | exact mU64 _ | rfl) rfl ?_
      refine WL.call Try.call37 rfl (refPut19_ok (ws (3 + i)) 4 (z := 4) rfl (by omega) (by decide) _) rfl ?_
      rintro _ w ⟨⟨A7, c7', x7⟩, rfl, h7, m'⟩
      replace M := M.call1 m'; clear m'
      unfold OX.v
      unfold OX.O at M
      dsimp only at h7 M ⊢
      have hl7 : x7.length = 4 := by rw [h7, nb_length]
      refine WL.assign rfl rfl ?_
      refine WL.nil ?_
      refine WX.next ?_
      refine W.sub [(1, _), (2, _), (4, _), (5, _), (6, _)] (.cons rfl (.cons rfl (.cons rfl (.cons rfl (.cons rfl .nil))))) ?_
      refine W.region ?_
      refine WL.move rfl rfl ?_
      refine WL.move rfl rfl ?_
      refine WL.appendBH Try.elem5 rfl rfl M (by first | ((repeat (first | with_reducible exact Del.here | with_reducible apply Del.there)); done) | (repeat (first | exact Del.here | apply Del.there))) (by first | first | with_reducible assumption | with_reducible exact RdB.mem (by with_reducible assumption) M | exact M.rdB (by first | ((repeat (first | with_reducible exact Has.here | with_reducible refine Has.there ?_)); done) | (repeat (first | exact Has.here | refine Has.there ?_))) | exact RdH.at (by assumption) (M.sel (by first | ((repeat (first | with_reducible exact Sel.refl | with_reducible exact Sel.nil | with_reducible exact Del.here | with_reducible apply Del.there | with_reducible apply Sel.cons | with_reducible apply Sel.drop)); done) | (repeat (first | exact Sel.refl | exact Sel.nil | exact Del.here | apply Del.there | apply Sel.cons | apply Sel.drop)))) | exact M.rdLit' (by first | ((repeat (first | with_reducible exact Has.here | with_reducible refine Has.there ?_)); done) | (repeat (first | exact Has.here | refine Has.there ?_))) | exact M.rdLent (by first | ((repeat (first | with_reducible exact Has.here | with_reducible refine Has.there ?_)); done) | (repeat (first | exact Has.here | refine Has.there ?_))) | exact RdB.nil _ _ | exact RdB.sub (by first | with_reducible assumption | with_reducible exact RdB.mem (by with_reducible assumption) M | exact M.rdB (by first | ((repeat (first | with_reducible exact Has.here | with_reducible refine Has.there ?_)); done) | (repeat (first | exact Has.here | refine Has.there ?_))) | exact RdH.at (by assumption) (M.sel (by first | ((repeat (first | with_reducible exact Sel.refl | with_reducible exact Sel.nil | with_reducible exact Del.here | with_reducible apply Del.there | with_reducible apply Sel.cons | with_reducible apply Sel.drop)); done) | (repeat (first | exact Sel.refl | exact Sel.nil | exact Del.here | apply Del.there | apply Sel.cons | apply Sel.drop)))) | exact M.rdLit' (by first | ((repeat (first | with_reducible exact Has.here | with_reducible refine Has.there ?_)); done) | (repeat (first | exact Has.here | refine Has.there ?_))) | exact M.rdLent (by first | ((repeat (first | with_reducible exact Has.here | with_reducible refine Has.there ?_)); done) | (repeat (first | exact Has.here | refine Has.there ?_))) | exact RdB.nil _ _) (by omega) (by omega) | exact RdB.pre' (by first | with_reducible assumption | with_reducible exact RdB.mem (by with_reducible assumption) M | exact M.rdB (by first | ((repeat (first | with_reducible exact Has.here | with_reducible refine Has.there ?_)); done) | (repeat (first | exact Has.here | refine Has.there ?_))) | exact RdH.at (by assumption) (M.sel (by first | ((repeat (first | with_reducible exact Sel.refl | with_reducible exact Sel.nil | with_reducible exact Del.here | with_reducible apply Del.there | with_reducible apply Sel.cons | with_reducible apply Sel.drop)); done) | (repeat (first | exact Sel.refl | exact Sel.nil | exact Del.here | apply Del.there | apply Sel.cons | apply Sel.drop)))) | exact M.rdLit' (by first | ((repeat (first | with_reducible exact Has.here | with_reducible refine Has.there ?_)); done) | (repeat (first | exact Has.here | refine Has.there ?_))) | exact M.rdLent (by first | ((repeat (first | with_reducible exact Has.here | with_reducible refine Has.there ?_)); done) | (repeat (first | exact Has.here | refine Has.there ?_))) | exact RdB.nil _ _) (by omega) | exact RdB.suf (by first | with_reducible assumption | with_reducible exact RdB.mem (by with_reducible assumption) M | exact M.rdB (by first | ((repeat (first | with_reducible exact Has.here | with_reducible refine Has.there ?_)); done) | (repeat (first | exact Has.here | refine Has.there ?_))) | exact RdH.at (by assumption) (M.sel (by first | ((repeat (first | with_reducible exact Sel.refl | with_reducible exact Sel.nil | with_reducible exact Del.here | with_reducible apply Del.there | with_reducible apply Sel.cons | with_reducible apply Sel.drop)); done) | (repeat (first | exact Sel.refl | exact Sel.nil | exact Del.here | apply Del.there | apply Sel.cons | apply Sel.drop)))) | exact M.rdLit' (by first | ((repeat (first | with_reducible exact Has.here | with_reducible refine Has.there ?_)); done) | (repeat (first | exact Has.here | refine Has.there ?_))) | exact M.rdLent (by first | ((repeat (first | with_reducible exact Has.here | with_reducible refine Has.there ?_)); done) | (repeat (first | exact Has.here | refine Has.there ?_))) | exact RdB.nil _ _) (by omega)) rfl rfl (by first | omega | (simp; done) | (simp; omega)) rfl ?_
      intro A8_2 cap8_2 w M
      refine WL.assign rfl rfl ?_
      refine WL.nil ?_
      refine WX.blockNormal ?_
      refine WX.next ?_
      refine W.sub [(1, _), (2, _), (4, _), (5, _)] (.cons rfl (.cons rfl (.cons rfl (.cons rfl .nil)))) ?_
      refine W.region ?_
      refine WL.move rfl rfl ?_
      refine WL.add rfl rfl (by first | exact wI64 (by omega) | rfl) rfl ?_
      refine WL.assign rfl rfl ?_
      refine WL.nil ?_
      rw [h7, ← hfs] at M ⊢
      refine WX.round ((i + 1, ⟨A8_2, cap8_2, ((List.range (i + 1)).map fun k => ws (3 + k)).flatMap fixed⟩)) (by (repeat' (first | exact envSub.nil | refine envSub.cons ?_ ?_)) <;> first | rfl | (refine congrArg some ?_; refine congrArg (Value.int _) ?_; first | omega | (dsimp only; omega)) | (simp; done) | (refine congrArg some ?_; dsimp only; congr 1; omega) | (simp; omega)) ⟨M.sel (by first | ((repeat (first | with_reducible exact Sel.refl | with_reducible exact Sel.nil | with_reducible exact Del.here | with_reducible apply Del.there | with_reducible apply Sel.cons | with_reducible apply Sel.drop)); done) | (repeat (first | exact Sel.refl | exact Sel.nil | exact Del.here | apply Del.there | apply Sel.cons | apply Sel.drop))), ⟨by dsimp only; omega, rfl⟩⟩ (by first | omega | (dsimp only; omega))
    · refine W.exit ?_
      refine WX.thenExit ?_
      refine WX.thenExit ?_
      refine WX.blockHere ?_
      refine WX.next ?_
      refine W.seq ?_
      obtain rfl : i = 4 := by omega
      have hm2 : m = cmdB ws := hm
      clear hm
      have hml : m.length = 16 := by rw [hm2]; rfl
      refine W.region ?_
      refine WL.move rfl rfl ?_
      refine WL.call Try.call39 rfl (refParse_ok (b := m) (by omega) (M.rdB (by first | ((repeat (first | with_reducible exact Has.here | with_reducible refine Has.there ?_)); done) | (repeat (first | exact Has.here | refine Has.there ?_))))) rfl ?_
      rintro _ w ⟨rfl, m'⟩
      replace M := M.call0 m'; clear m'
      rw [hm2]
      unfold CmX.v
      refine WL.extractL rfl rfl rfl ?_
      refine WL.extractL rfl rfl rfl ?_
      refine WL.storeWA Try.sizeOf36 rfl rfl (by repeat (first | exact oneNil | refine oneCons rfl ?_)) rfl rfl M (by first | ((repeat (first | with_reducible exact Upd.here | with_reducible apply Upd.there)); done) | (repeat (first | exact Upd.here | apply Upd.there))) ?_
      intro w M
      refine WL.assign rfl rfl ?_
      refine WL.nil ?_
      refine WX.next ?_
      refine W.sub [(2, _), (3, _)] (.cons rfl (.cons rfl .nil)) ?_
      refine W.ret ?_
      refine WX.retC2 (cs := [_, _, _, _]) rfl rfl rfl Try.isAgg36 (by exact Try.sizeOf36) (M.cellsH (by first | ((repeat (first | with_reducible exact Has.here | with_reducible refine Has.there ?_)); done) | (repeat (first | exact Has.here | refine Has.there ?_)))) ?_
      have h1 : op = 1 := Classical.not_not.1 c0
      exact ⟨by unfold comC comE; rw [if_pos h1, if_pos h1], M.sel (by first | ((repeat (first | with_reducible exact Sel.refl | with_reducible exact Sel.nil | with_reducible exact Del.here | with_reducible apply Del.there | with_reducible apply Sel.cons | with_reducible apply Sel.drop)); done) | (repeat (first | exact Sel.refl | exact Sel.nil | exact Del.here | apply Del.there | apply Sel.cons | apply Sel.drop)))⟩
end Go.Proofs.Ytinbcidgdbmcjaa
