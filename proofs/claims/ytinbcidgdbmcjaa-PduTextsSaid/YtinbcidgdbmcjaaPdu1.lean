/-
  Walks: ops, Check, words, pad, word (pdu).
-/
import Derived.Test.YtinbcidgdbmcjaaPduLaw2
import Derived.Test.YtinbcidgdbmcjaaSlices
namespace Go.Proofs.Ytinbcidgdbmcjaa
open Go Go.RowKit Bin

/-- Numbers of four bytes in a list. -/
def u32E : Enc Nat := ⟨23, 1, fun n => [.int .u32 (n : Int)], fun _ => rfl, (fun a v hv => by
  rw [List.mem_singleton] at hv
  subst hv
  rfl), by decide⟩
theorem Try.elem23 : Elem Try.prog 79 23 1 4 := by
  obtain ⟨i, hi, h1, h2, h3⟩ := info_parts (P := Try.prog) (e := 23) (z := .int .u32 0) (size := 1) (bytes := 4) (by kernel_rfl)
  exact ⟨Try.underlying79, ⟨i, _, hi, h1, h2, h3, rfl⟩, by decide⟩
/-- A message as it lies. -/
structure PdX where
  op : Int
  now : Bool
  flags : UInt8
  lun : Nat
  tag : Nat
  ws : Nat → Nat
  x : OX
instance : Inhabited PdX := ⟨⟨0, false, 0, 0, 0, fun _ => 0, default⟩⟩
def PdX.m (p : PdX) : MX := ⟨p.op, p.now, p.flags, p.lun, p.tag, p.ws, p.x.l⟩
def PdX.O (p : PdX) : Asr := p.x.O
def PdX.cells (p : PdX) : List Value := [.int .i64 p.op, .bool p.now, .int .u8 (p.flags.toNat : Int), .int .u64 (p.lun : Int), .int .u32 (p.tag : Int), .int .u32 (p.ws 0 : Int), .int .u32 (p.ws 1 : Int), .int .u32 (p.ws 2 : Int), .int .u32 (p.ws 3 : Int), .int .u32 (p.ws 4 : Int), .int .u32 (p.ws 5 : Int), .int .u32 (p.ws 6 : Int), .slice p.x.A p.x.l.length p.x.cap]
def PdX.v (p : PdX) : Value := .agg #[.int .i64 p.op, .bool p.now, .int .u8 (p.flags.toNat : Int), .int .u64 (p.lun : Int), .int .u32 (p.tag : Int), .int .u32 (p.ws 0 : Int), .int .u32 (p.ws 1 : Int), .int .u32 (p.ws 2 : Int), .int .u32 (p.ws 3 : Int), .int .u32 (p.ws 4 : Int), .int .u32 (p.ws 5 : Int), .int .u32 (p.ws 6 : Int), .slice p.x.A p.x.l.length p.x.cap]
def pduE : Enc PdX := ⟨27, 13, PdX.cells, fun _ => rfl, (fun a v hv => by
  unfold PdX.cells at hv
  simp only [List.mem_cons, List.not_mem_nil, or_false] at hv
  rcases hv with rfl | rfl | rfl | rfl | rfl | rfl | rfl | rfl | rfl | rfl | rfl | rfl | rfl <;> rfl), by decide⟩
theorem Try.elem27 : Elem Try.prog 55 27 13 80 := by
  obtain ⟨i, hi, h1, h2, h3⟩ := info_parts (P := Try.prog) (e := 27) (z := .agg #[.int .i64 0, .bool false, .int .u8 0, .int .u64 0, .int .u32 0, .int .u32 0, .int .u32 0, .int .u32 0, .int .u32 0, .int .u32 0, .int .u32 0, .int .u32 0, .slice none 0 0]) (size := 13) (bytes := 80) (by kernel_rfl)
  exact ⟨Try.underlying55, ⟨i, _, hi, h1, h2, h3, rfl⟩, by decide⟩

theorem ops_ok (w0 : World) : Fn Try.prog 41 [] w0 fun v w' => ∃ A, v = .slice A opsL.length 11 ∧ Mem w0 w' [Asr.lst intE A 11 opsL] := by
  have M := Mem.refl w0
  obtain ⟨w, hw⟩ : ∃ w, w = w0 := ⟨w0, rfl⟩
  refine Fn.enter Try.func41 rfl Try.ntmps41 rfl ?_
  refine W.sub [] .nil ?_
  refine W.seq ?_
  refine W.region ?_
  refine WL.assign rfl rfl ?_
  refine WL.nil ?_
  refine WX.next ?_
  refine W.sub [] .nil ?_
  refine W.seq ?_
  refine W.region ?_
  refine WL.buildL (E := intE) (l := opsL) Try.elem3 M rfl rfl rfl rfl rfl rfl ?_
  intro g1_0 w M
  refine WL.assign rfl rfl ?_
  refine WL.nil ?_
  refine WX.next ?_
  refine W.sub [(0, _)] (.cons rfl .nil) ?_
  refine W.ret ?_
  refine WX.ret1 rfl rfl ?_
  exact ⟨_, rfl, M⟩
theorem Check_ok (p : PdX) (w0 : World) : Fn Try.prog 15 [p.v] w0 fun v w' => v = .int .i64 (chkM p.op p.now p.x.l.length) ∧ Mem w0 w' [] := by
  have M := Mem.refl w0
  obtain ⟨w, hw⟩ : ∃ w, w = w0 := ⟨w0, rfl⟩
  obtain ⟨op, now, flags, lun, tag, ws, ⟨A, cap, l⟩⟩ := p
  unfold PdX.v
  dsimp only
  refine Fn.enter Try.func15 rfl Try.ntmps15 rfl ?_
  refine W.sub [(0, _)] (.cons rfl .nil) ?_
  refine W.seq ?_
  refine W.region ?_
  refine WL.box rfl M rfl ?_
  intro g0_0 w M
  try simp only [Value.cells] at M
  try simp only [List.toList_toArray] at M
  refine WL.assign rfl rfl ?_
  refine WL.nil ?_
  refine WX.next ?_
  refine W.sub [(1, _)] (.cons rfl .nil) ?_
  refine W.seq ?_
  refine W.block ?_
  refine W.seq ?_
  refine W.drawM ([Asr.row g0_0 27 (PdX.cells ⟨op, now, flags, lun, tag, ws, ⟨A, cap, l⟩⟩)]) (by kernel_rfl) (fun j => [0].contains j) M (by first | ((repeat (first | with_reducible exact Sel.refl | with_reducible exact Sel.nil | with_reducible exact Del.here | with_reducible apply Del.there | with_reducible apply Sel.cons | with_reducible apply Sel.drop)); done) | (repeat (first | exact Sel.refl | exact Sel.nil | exact Del.here | apply Del.there | apply Sel.cons | apply Sel.drop))) ?_
  clear M; intro M
  apply DG.pure_ [1] 5 rfl (by kernel_rfl) (by kernel_rfl)
  · intro w
    refine WL.fieldR (off := 0) Try.underlying27 rfl rfl Try.sizeOf3 rfl rfl rfl ?_
    exact Chain.end_ rfl
  apply DG.take [2] 4 rfl (by kernel_rfl) (by kernel_rfl) (M.sel (by first | ((repeat (first | with_reducible exact Sel.refl | with_reducible exact Sel.nil | with_reducible exact Del.here | with_reducible apply Del.there | with_reducible apply Sel.cons | with_reducible apply Sel.drop)); done) | (repeat (first | exact Sel.refl | exact Sel.nil | exact Del.here | apply Del.there | apply Sel.cons | apply Sel.drop))))
  · intro w M
    refine WL.loadR Try.isAgg3 rfl M (by first | ((repeat (first | with_reducible exact Has.here | with_reducible refine Has.there ?_)); done) | (repeat (first | exact Has.here | refine Has.there ?_))) rfl rfl ?_
    exact Chain.end_ rfl
  refine DG.step 0 3 rfl (by kernel_rfl) ?_
  refine WL.call Try.call41 rfl (ops_ok _) rfl ?_
  rintro _ w ⟨Ao, rfl, m⟩
  replace M := M.call1 m; clear m
  refine DG.go (G := fun j => [0].contains j) (i := 0) (f' := 3) (done := [1, 2]) (fun _ => M.sel (by first | ((repeat (first | with_reducible exact Sel.refl | with_reducible exact Sel.nil | with_reducible exact Del.here | with_reducible apply Del.there | with_reducible apply Sel.cons | with_reducible apply Sel.drop)); done) | (repeat (first | exact Sel.refl | exact Sel.nil | exact Del.here | apply Del.there | apply Sel.cons | apply Sel.drop)))) ?_
  refine DG.step 3 2 rfl (by kernel_rfl) ?_
  refine WL.call Try.call40 rfl (sContains_ok (by first | with_reducible assumption | with_reducible exact RdL.mem (by with_reducible assumption) M | exact M.rdL (by first | ((repeat (first | with_reducible exact Has.here | with_reducible refine Has.there ?_)); done) | (repeat (first | exact Has.here | refine Has.there ?_))) | exact RdLH.at (by assumption) (M.sel (by first | ((repeat (first | with_reducible exact Sel.refl | with_reducible exact Sel.nil | with_reducible exact Del.here | with_reducible apply Del.there | with_reducible apply Sel.cons | with_reducible apply Sel.drop)); done) | (repeat (first | exact Sel.refl | exact Sel.nil | exact Del.here | apply Del.there | apply Sel.cons | apply Sel.drop)))) | exact RdL.nil _ _ _) op (by decide)) rfl ?_
  rintro _ w ⟨rfl, m⟩
  replace M := M.call0 m; clear m
  refine DG.go (G := fun j => [0].contains j) (i := 3) (f' := 2) (done := [1, 2, 0]) (fun h => by cases h) ?_
  apply DG.pure_ [4, 5] 0 rfl (by kernel_rfl) (by kernel_rfl)
  · intro w
    refine WL.not rfl rfl ?_
    refine WL.assign rfl rfl ?_
    exact Chain.end_ rfl
  refine DG.end_ (by kernel_rfl) ?_
  refine WX.next ?_
  refine W.sub [(1, _), (3, _)] (.cons rfl (.cons rfl .nil)) ?_
  refine W.cond rfl (fun c0 => ?_) (fun c0 => ?_)
  · (try simp only [Bool.not_eq_true'] at c0); (try simp only [Bool.not_eq_false'] at c0); (try simp only [decide_eq_true_eq] at c0); (try simp only [decide_eq_false_iff_not] at c0)
    refine W.seq ?_
    refine W.region ?_
    refine WL.assign rfl rfl ?_
    refine WL.nil ?_
    refine WX.next ?_
    refine W.sub [(2, _)] (.cons rfl .nil) ?_
    refine W.ret ?_
    refine WX.blockRet ?_
    refine WX.thenRet ?_
    refine WX.ret1 rfl rfl ?_
    exact ⟨by unfold chkM; first | (rw [if_pos c0]; done) | (rw [if_neg (fun h => h c0)]; first | (rw [if_pos ⟨c1, c2⟩]; done) | (rw [if_neg (fun h => c2 h.2)]; first | (rw [if_pos (by omega)]; done) | rw [if_neg (by omega)]) | (rw [if_neg (fun h => by rw [c1] at h; cases h.1)]; first | (rw [if_pos (by omega)]; done) | rw [if_neg (by omega)])), M.sel (by first | ((repeat (first | with_reducible exact Sel.refl | with_reducible exact Sel.nil | with_reducible exact Del.here | with_reducible apply Del.there | with_reducible apply Sel.cons | with_reducible apply Sel.drop)); done) | (repeat (first | exact Sel.refl | exact Sel.nil | exact Del.here | apply Del.there | apply Sel.cons | apply Sel.drop)))⟩
  · (try simp only [Bool.not_eq_true'] at c0); (try simp only [Bool.not_eq_false'] at c0); (try simp only [decide_eq_true_eq] at c0); (try simp only [decide_eq_false_iff_not] at c0)
    refine W.seq ?_
    refine W.region ?_
    refine WL.fieldR (off := 1) Try.underlying27 rfl rfl Try.sizeOf4 rfl rfl rfl ?_
    refine WL.loadR Try.isAgg4 rfl M (by first | ((repeat (first | with_reducible exact Has.here | with_reducible refine Has.there ?_)); done) | (repeat (first | exact Has.here | refine Has.there ?_))) rfl rfl ?_
    refine WL.moveIfB rfl rfl (fun c1 => ?_) (fun c1 => ?_)
    · refine WL.on rfl rfl ?_
      refine WL.fieldR (off := 0) Try.underlying27 rfl rfl Try.sizeOf3 rfl rfl rfl ?_
      refine WL.on rfl rfl ?_
      refine WL.loadR Try.isAgg3 rfl M (by first | ((repeat (first | with_reducible exact Has.here | with_reducible refine Has.there ?_)); done) | (repeat (first | exact Has.here | refine Has.there ?_))) rfl rfl ?_
      refine WL.on rfl rfl ?_
      refine WL.geq rfl rfl rfl ?_
      refine WL.pickT rfl rfl rfl ?_
      refine WL.assign rfl rfl ?_
      refine WL.nil ?_
      refine WX.next ?_
      refine W.sub [(1, _), (9, _)] (.cons rfl (.cons rfl .nil)) ?_
      refine W.ite rfl (fun c2 => ?_) (fun c2 => ?_)
      · refine W.seq ?_
        refine W.region ?_
        refine WL.assign rfl rfl ?_
        refine WL.nil ?_
        refine WX.next ?_
        refine W.sub [(2, _)] (.cons rfl .nil) ?_
        refine W.ret ?_
        refine WX.blockRet ?_
        refine WX.thenRet ?_
        refine WX.ret1 rfl rfl ?_
        exact ⟨by unfold chkM; first | (rw [if_pos c0]; done) | (rw [if_neg (fun h => h c0)]; first | (rw [if_pos ⟨c1, c2⟩]; done) | (rw [if_neg (fun h => c2 h.2)]; first | (rw [if_pos (by omega)]; done) | rw [if_neg (by omega)]) | (rw [if_neg (fun h => by rw [c1] at h; cases h.1)]; first | (rw [if_pos (by omega)]; done) | rw [if_neg (by omega)])), M.sel (by first | ((repeat (first | with_reducible exact Sel.refl | with_reducible exact Sel.nil | with_reducible exact Del.here | with_reducible apply Del.there | with_reducible apply Sel.cons | with_reducible apply Sel.drop)); done) | (repeat (first | exact Sel.refl | exact Sel.nil | exact Del.here | apply Del.there | apply Sel.cons | apply Sel.drop)))⟩
      · refine W.seq ?_
        refine W.region ?_
        refine WL.fieldR (off := 12) Try.underlying27 rfl rfl Try.sizeOf25 rfl rfl rfl ?_
        refine WL.loadR Try.isAgg25 rfl M (by first | ((repeat (first | with_reducible exact Has.here | with_reducible refine Has.there ?_)); done) | (repeat (first | exact Has.here | refine Has.there ?_))) rfl rfl ?_
        refine WL.len Try.underlying25 rfl rfl ?_
        refine WL.gtr rfl rfl rfl ?_
        refine WL.assign rfl rfl ?_
        refine WL.nil ?_
        refine WX.next ?_
        refine W.sub [(17, _)] (.cons rfl .nil) ?_
        refine W.ite rfl (fun c3 => ?_) (fun c3 => ?_)
        · refine W.seq ?_
          refine W.region ?_
          refine WL.assign rfl rfl ?_
          refine WL.nil ?_
          refine WX.next ?_
          refine W.sub [(2, _)] (.cons rfl .nil) ?_
          refine W.ret ?_
          refine WX.blockRet ?_
          refine WX.thenRet ?_
          refine WX.ret1 rfl rfl ?_
          exact ⟨by unfold chkM; first | (rw [if_pos c0]; done) | (rw [if_neg (fun h => h c0)]; first | (rw [if_pos ⟨c1, c2⟩]; done) | (rw [if_neg (fun h => c2 h.2)]; first | (rw [if_pos (by omega)]; done) | rw [if_neg (by omega)]) | (rw [if_neg (fun h => by rw [c1] at h; cases h.1)]; first | (rw [if_pos (by omega)]; done) | rw [if_neg (by omega)])), M.sel (by first | ((repeat (first | with_reducible exact Sel.refl | with_reducible exact Sel.nil | with_reducible exact Del.here | with_reducible apply Del.there | with_reducible apply Sel.cons | with_reducible apply Sel.drop)); done) | (repeat (first | exact Sel.refl | exact Sel.nil | exact Del.here | apply Del.there | apply Sel.cons | apply Sel.drop)))⟩
        · refine W.skip ?_
          refine WX.blockNormal ?_
          refine WX.next ?_
          refine W.seq ?_
          refine W.region ?_
          refine WL.assign rfl rfl ?_
          refine WL.nil ?_
          refine WX.next ?_
          refine W.sub [(2, _)] (.cons rfl .nil) ?_
          refine W.ret ?_
          refine WX.ret1 rfl rfl ?_
          exact ⟨by unfold chkM; first | (rw [if_pos c0]; done) | (rw [if_neg (fun h => h c0)]; first | (rw [if_pos ⟨c1, c2⟩]; done) | (rw [if_neg (fun h => c2 h.2)]; first | (rw [if_pos (by omega)]; done) | rw [if_neg (by omega)]) | (rw [if_neg (fun h => by rw [c1] at h; cases h.1)]; first | (rw [if_pos (by omega)]; done) | rw [if_neg (by omega)])), M.sel (by first | ((repeat (first | with_reducible exact Sel.refl | with_reducible exact Sel.nil | with_reducible exact Del.here | with_reducible apply Del.there | with_reducible apply Sel.cons | with_reducible apply Sel.drop)); done) | (repeat (first | exact Sel.refl | exact Sel.nil | exact Del.here | apply Del.there | apply Sel.cons | apply Sel.drop)))⟩
    · refine WL.off rfl rfl rfl rfl ?_
      refine WL.off rfl rfl rfl rfl ?_
      refine WL.off rfl rfl rfl rfl ?_
      refine WL.pickF rfl rfl rfl ?_
      refine WL.assign rfl rfl ?_
      refine WL.nil ?_
      refine WX.next ?_
      refine W.sub [(1, _), (9, _)] (.cons rfl (.cons rfl .nil)) ?_
      refine W.condF rfl ?_
      refine W.seq ?_
      refine W.region ?_
      refine WL.fieldR (off := 12) Try.underlying27 rfl rfl Try.sizeOf25 rfl rfl rfl ?_
      refine WL.loadR Try.isAgg25 rfl M (by first | ((repeat (first | with_reducible exact Has.here | with_reducible refine Has.there ?_)); done) | (repeat (first | exact Has.here | refine Has.there ?_))) rfl rfl ?_
      refine WL.len Try.underlying25 rfl rfl ?_
      refine WL.gtr rfl rfl rfl ?_
      refine WL.assign rfl rfl ?_
      refine WL.nil ?_
      refine WX.next ?_
      refine W.sub [(17, _)] (.cons rfl .nil) ?_
      refine W.ite rfl (fun c3 => ?_) (fun c3 => ?_)
      · refine W.seq ?_
        refine W.region ?_
        refine WL.assign rfl rfl ?_
        refine WL.nil ?_
        refine WX.next ?_
        refine W.sub [(2, _)] (.cons rfl .nil) ?_
        refine W.ret ?_
        refine WX.blockRet ?_
        refine WX.thenRet ?_
        refine WX.ret1 rfl rfl ?_
        exact ⟨by unfold chkM; first | (rw [if_pos c0]; done) | (rw [if_neg (fun h => h c0)]; first | (rw [if_pos ⟨c1, c2⟩]; done) | (rw [if_neg (fun h => c2 h.2)]; first | (rw [if_pos (by omega)]; done) | rw [if_neg (by omega)]) | (rw [if_neg (fun h => by rw [c1] at h; cases h.1)]; first | (rw [if_pos (by omega)]; done) | rw [if_neg (by omega)])), M.sel (by first | ((repeat (first | with_reducible exact Sel.refl | with_reducible exact Sel.nil | with_reducible exact Del.here | with_reducible apply Del.there | with_reducible apply Sel.cons | with_reducible apply Sel.drop)); done) | (repeat (first | exact Sel.refl | exact Sel.nil | exact Del.here | apply Del.there | apply Sel.cons | apply Sel.drop)))⟩
      · refine W.skip ?_
        refine WX.blockNormal ?_
        refine WX.next ?_
        refine W.seq ?_
        refine W.region ?_
        refine WL.assign rfl rfl ?_
        refine WL.nil ?_
        refine WX.next ?_
        refine W.sub [(2, _)] (.cons rfl .nil) ?_
        refine W.ret ?_
        refine WX.ret1 rfl rfl ?_
        exact ⟨by unfold chkM; first | (rw [if_pos c0]; done) | (rw [if_neg (fun h => h c0)]; first | (rw [if_pos ⟨c1, c2⟩]; done) | (rw [if_neg (fun h => c2 h.2)]; first | (rw [if_pos (by omega)]; done) | rw [if_neg (by omega)]) | (rw [if_neg (fun h => by rw [c1] at h; cases h.1)]; first | (rw [if_pos (by omega)]; done) | rw [if_neg (by omega)])), M.sel (by first | ((repeat (first | with_reducible exact Sel.refl | with_reducible exact Sel.nil | with_reducible exact Del.here | with_reducible apply Del.there | with_reducible apply Sel.cons | with_reducible apply Sel.drop)); done) | (repeat (first | exact Sel.refl | exact Sel.nil | exact Del.here | apply Del.there | apply Sel.cons | apply Sel.drop)))⟩
theorem and3 (n : Int) : bits .and .i64 n 3 = n % 4 := by
  have h3 : (BitVec.ofInt 64 3).toNat = 2 ^ 2 - 1 := by decide
  have key : (BitVec.ofInt 64 n &&& BitVec.ofInt 64 3).toNat = (n % ((2 ^ 64 : Nat) : Int)).toNat % 2 ^ 2 := by
    rw [BitVec.toNat_and, BitVec.toNat_ofInt, h3, Nat.and_two_pow_sub_one_eq_mod]
  show IntKind.i64.wrap ((BitVec.ofInt 64 n &&& BitVec.ofInt 64 3).toNat : Nat) = n % 4
  rw [key, IntKind.wrap_i64]
  omega
theorem pad_ok (n : Nat) (hn : n ≤ 1000000000000) (w0 : World) : Fn Try.prog 36 [.int .i64 (n : Int)] w0 fun v w' => v = .int .i64 (padN n : Int) ∧ w' = w0 := by
  have M := Mem.refl w0
  refine Fn.enter Try.func36 rfl Try.ntmps36 rfl ?_
  refine W.sub [(0, _)] (.cons rfl .nil) ?_
  refine W.seq ?_
  refine W.region ?_
  refine WL.assign rfl rfl ?_
  refine WL.nil ?_
  refine WX.next ?_
  refine W.sub [(0, _)] (.cons rfl .nil) ?_
  refine W.seq ?_
  refine W.region ?_
  refine WL.move rfl rfl ?_
  refine WL.neg rfl (by first | exact wI64 (by omega) | rfl) rfl ?_
  refine WL.band rfl rfl (and3 _) rfl ?_
  refine WL.assign rfl rfl ?_
  refine WL.nil ?_
  refine WX.next ?_
  refine W.sub [(2, _)] (.cons rfl .nil) ?_
  refine W.ret ?_
  refine WX.ret1 rfl rfl ?_
  exact ⟨congrArg (Value.int .i64) (by unfold padN; omega), rfl⟩
theorem fixed_of (n : Nat) : BytesOf [(n : Int) / 16777216 % 256, (n : Int) / 65536 % 256, (n : Int) / 256 % 256, (n : Int) % 256] (fixed n) := by
  have h : ∀ k : Nat, k < 256 → ((UInt8.ofNat k).toNat : Int) = (k : Int) := fun k hk => by rw [UInt8.toNat_ofNat']; omega
  rw [show ((n : Int) / 16777216 % 256) = ((UInt8.ofNat (n / 16777216 % 256)).toNat : Int) by rw [h _ (by omega)]; omega, show ((n : Int) / 65536 % 256) = ((UInt8.ofNat (n / 65536 % 256)).toNat : Int) by rw [h _ (by omega)]; omega,
    show ((n : Int) / 256 % 256) = ((UInt8.ofNat (n / 256 % 256)).toNat : Int) by rw [h _ (by omega)]; omega, show ((n : Int) % 256) = ((UInt8.ofNat (n % 256)).toNat : Int) by rw [h _ (by omega)]; omega]
  exact .nat (.nat (.nat (.nat .nil)))
theorem fixed_length (n : Nat) : (fixed n).length = 4 := rfl
theorem take_snocN {l : List Nat} {i : Nat} (h : i < l.length) : l.take (i + 1) = l.take i ++ [el l i] := by
  have e : el l i = l[i] := by simp [el, h]
  rw [e, List.take_succ_eq_append_getElem h]
theorem words_ok (x : OX) {A : Option Addr} {cap : Nat} {ls : List Nat} (w0 w : World) (L L' : List Asr) (M : Mem w0 w L) (hd : Del x.O L L') (hr : RdLH w0 L' u32E A cap ls) (hl : ls.length ≤ 100) (hx : x.l.length ≤ 1000000) :
    Fn Try.prog 35 [x.v, .slice A ls.length cap] w fun v w' => ∃ x' : OX, v = x'.v ∧ x'.l = x.l ++ ls.flatMap fixed ∧ Mem w0 w' (x'.O :: L') := by
  have M1 := M.del hd
  replace M := M1
  obtain ⟨B, cB, l⟩ := x
  unfold OX.O at M
  unfold OX.v
  dsimp only at M hx ⊢
  refine Fn.enter Try.func35 rfl Try.ntmps35 rfl ?_
  refine W.sub [(0, _), (1, _)] (.cons rfl (.cons rfl .nil)) ?_
  refine W.seq ?_
  refine W.region ?_
  refine WL.assign rfl rfl ?_
  refine WL.nil ?_
  refine WX.next ?_
  refine W.sub [(0, _), (1, _)] (.cons rfl (.cons rfl .nil)) ?_
  refine W.seq ?_
  refine W.seq ?_
  refine W.region ?_
  refine WL.move rfl rfl ?_
  refine WL.len Try.underlying79 rfl rfl ?_
  refine WL.move rfl rfl ?_
  refine WL.nil ?_
  refine WX.next ?_
  refine W.sub [(0, _), (7, _), (8, _), (9, _)] (.cons rfl (.cons rfl (.cons rfl (.cons rfl .nil)))) ?_
  refine W.block ?_
  refine W.loop (ι := Nat × OX) (fun z => [(0, .slice z.2.A z.2.l.length z.2.cap), (7, .slice A ls.length cap), (8, .int .i64 (ls.length : Int)), (9, .int .i64 (z.1 : Int))]) (fun zz w => Mem w0 w ((fun z => Asr.own 5 1 z.2.A z.2.l.length z.2.cap (bs z.2.l) :: L') zz) ∧ (fun z => z.1 ≤ ls.length ∧ z.2.l = l ++ (ls.take z.1).flatMap fixed ∧ z.2.l.length = l.length + 4 * z.1) zz) (fun z => ls.length - z.1) ((0, ⟨B, cB, l⟩)) (by (repeat' (first | exact envSub.nil | refine envSub.cons ?_ ?_)) <;> first | rfl | (refine congrArg some ?_; refine congrArg (Value.int _) ?_; first | omega | (dsimp only; omega)) | (simp; done) | (refine congrArg some ?_; dsimp only; congr 1; omega) | (simp; omega)) ⟨M.sel (by first | ((repeat (first | with_reducible exact Sel.refl | with_reducible exact Sel.nil | with_reducible exact Del.here | with_reducible apply Del.there | with_reducible apply Sel.cons | with_reducible apply Sel.drop)); done) | (repeat (first | exact Sel.refl | exact Sel.nil | exact Del.here | apply Del.there | apply Sel.cons | apply Sel.drop))), ⟨Nat.zero_le _, by simp, by simp⟩⟩ ?_
  clear M; rintro (⟨i, ⟨C, cC, m⟩⟩) w ⟨M, ⟨hi, hm, hml⟩⟩; dsimp only at M hi hm hml ⊢
  refine W.sub [(0, _), (7, _), (8, _), (9, _)] (.cons rfl (.cons rfl (.cons rfl (.cons rfl .nil)))) ?_
  refine W.seq ?_
  refine W.region ?_
  refine WL.lss rfl rfl rfl ?_
  refine WL.nil ?_
  refine WX.next ?_
  refine W.sub [(0, _), (7, _), (8, _), (9, _), (10, _)] (.cons rfl (.cons rfl (.cons rfl (.cons rfl (.cons rfl .nil))))) ?_
  refine W.seq ?_
  refine W.ite rfl (fun c0 => ?_) (fun c0 => ?_)
  · refine W.skip ?_
    refine WX.next ?_
    refine W.seq ?_
    refine W.block ?_
    refine W.seq ?_
    refine W.region ?_
    refine WL.idxA Try.underlying79 Try.sizeOf23 rfl rfl (RdL.isSome (E := u32E) (by first | with_reducible assumption | with_reducible exact RdL.mem (by with_reducible assumption) M | exact M.rdL (by first | ((repeat (first | with_reducible exact Has.here | with_reducible refine Has.there ?_)); done) | (repeat (first | exact Has.here | refine Has.there ?_))) | exact RdLH.at (by assumption) (M.sel (by first | ((repeat (first | with_reducible exact Sel.refl | with_reducible exact Sel.nil | with_reducible exact Del.here | with_reducible apply Del.there | with_reducible apply Sel.cons | with_reducible apply Sel.drop)); done) | (repeat (first | exact Sel.refl | exact Sel.nil | exact Del.here | apply Del.there | apply Sel.cons | apply Sel.drop)))) | exact RdL.nil _ _ _) (by omega)) (by omega) (by omega) (by first | exact rfl | exact (Int.toNat_of_nonneg (by omega)).symm) rfl ?_
    refine WL.loadE0 (E := u32E) Try.isAgg23 rfl (by first | with_reducible assumption | with_reducible exact RdL.mem (by with_reducible assumption) M | exact M.rdL (by first | ((repeat (first | with_reducible exact Has.here | with_reducible refine Has.there ?_)); done) | (repeat (first | exact Has.here | refine Has.there ?_))) | exact RdLH.at (by assumption) (M.sel (by first | ((repeat (first | with_reducible exact Sel.refl | with_reducible exact Sel.nil | with_reducible exact Del.here | with_reducible apply Del.there | with_reducible apply Sel.cons | with_reducible apply Sel.drop)); done) | (repeat (first | exact Sel.refl | exact Sel.nil | exact Del.here | apply Del.there | apply Sel.cons | apply Sel.drop)))) | exact RdL.nil _ _ _) (by omega) rfl rfl ?_
    refine WL.assign rfl rfl ?_
    refine WL.nil ?_
    refine WX.next ?_
    refine W.sub [(0, _), (6, _), (7, _), (8, _), (9, _)] (.cons rfl (.cons rfl (.cons rfl (.cons rfl (.cons rfl .nil))))) ?_
    refine W.region ?_
    refine WL.move rfl rfl ?_
    refine WL.move rfl rfl ?_
    refine WL.shrC rfl rfl 24 rfl rfl 16777216 rfl rfl ?_
    refine WL.conv Try.underlying23 Try.underlying5 rfl (mU8 _) rfl ?_
    refine WL.move rfl rfl ?_
    refine WL.shrC rfl rfl 16 rfl rfl 65536 rfl rfl ?_
    refine WL.conv Try.underlying23 Try.underlying5 rfl (mU8 _) rfl ?_
    refine WL.move rfl rfl ?_
    refine WL.shrC rfl rfl 8 rfl rfl 256 rfl rfl ?_
    refine WL.conv Try.underlying23 Try.underlying5 rfl (mU8 _) rfl ?_
    refine WL.move rfl rfl ?_
    refine WL.conv Try.underlying23 Try.underlying5 rfl (mU8 _) rfl ?_
    refine WL.buildB (es := [_, _, _, _]) Try.elem5 M rfl rfl (fixed_of _) (by rfl) rfl rfl ?_
    intro g4_12 w M
    refine WL.appendBH Try.elem5 rfl rfl M (by first | ((repeat (first | with_reducible exact Del.here | with_reducible apply Del.there)); done) | (repeat (first | exact Del.here | apply Del.there))) (by first | first | with_reducible assumption | with_reducible exact RdB.mem (by with_reducible assumption) M | exact M.rdB (by first | ((repeat (first | with_reducible exact Has.here | with_reducible refine Has.there ?_)); done) | (repeat (first | exact Has.here | refine Has.there ?_))) | exact RdH.at (by assumption) (M.sel (by first | ((repeat (first | with_reducible exact Sel.refl | with_reducible exact Sel.nil | with_reducible exact Del.here | with_reducible apply Del.there | with_reducible apply Sel.cons | with_reducible apply Sel.drop)); done) | (repeat (first | exact Sel.refl | exact Sel.nil | exact Del.here | apply Del.there | apply Sel.cons | apply Sel.drop)))) | exact M.rdLit' (by first | ((repeat (first | with_reducible exact Has.here | with_reducible refine Has.there ?_)); done) | (repeat (first | exact Has.here | refine Has.there ?_))) | exact M.rdLent (by first | ((repeat (first | with_reducible exact Has.here | with_reducible refine Has.there ?_)); done) | (repeat (first | exact Has.here | refine Has.there ?_))) | exact RdB.nil _ _ | exact RdB.sub (by first | with_reducible assumption | with_reducible exact RdB.mem (by with_reducible assumption) M | exact M.rdB (by first | ((repeat (first | with_reducible exact Has.here | with_reducible refine Has.there ?_)); done) | (repeat (first | exact Has.here | refine Has.there ?_))) | exact RdH.at (by assumption) (M.sel (by first | ((repeat (first | with_reducible exact Sel.refl | with_reducible exact Sel.nil | with_reducible exact Del.here | with_reducible apply Del.there | with_reducible apply Sel.cons | with_reducible apply Sel.drop)); done) | (repeat (first | exact Sel.refl | exact Sel.nil | exact Del.here | apply Del.there | apply Sel.cons | apply Sel.drop)))) | exact M.rdLit' (by first | ((repeat (first | with_reducible exact Has.here | with_reducible refine Has.there ?_)); done) | (repeat (first | exact Has.here | refine Has.there ?_))) | exact M.rdLent (by first | ((repeat (first | with_reducible exact Has.here | with_reducible refine Has.there ?_)); done) | (repeat (first | exact Has.here | refine Has.there ?_))) | exact RdB.nil _ _) (by omega) (by omega) | exact RdB.pre' (by first | with_reducible assumption | with_reducible exact RdB.mem (by with_reducible assumption) M | exact M.rdB (by first | ((repeat (first | with_reducible exact Has.here | with_reducible refine Has.there ?_)); done) | (repeat (first | exact Has.here | refine Has.there ?_))) | exact RdH.at (by assumption) (M.sel (by first | ((repeat (first | with_reducible exact Sel.refl | with_reducible exact Sel.nil | with_reducible exact Del.here | with_reducible apply Del.there | with_reducible apply Sel.cons | with_reducible apply Sel.drop)); done) | (repeat (first | exact Sel.refl | exact Sel.nil | exact Del.here | apply Del.there | apply Sel.cons | apply Sel.drop)))) | exact M.rdLit' (by first | ((repeat (first | with_reducible exact Has.here | with_reducible refine Has.there ?_)); done) | (repeat (first | exact Has.here | refine Has.there ?_))) | exact M.rdLent (by first | ((repeat (first | with_reducible exact Has.here | with_reducible refine Has.there ?_)); done) | (repeat (first | exact Has.here | refine Has.there ?_))) | exact RdB.nil _ _) (by omega) | exact RdB.suf (by first | with_reducible assumption | with_reducible exact RdB.mem (by with_reducible assumption) M | exact M.rdB (by first | ((repeat (first | with_reducible exact Has.here | with_reducible refine Has.there ?_)); done) | (repeat (first | exact Has.here | refine Has.there ?_))) | exact RdH.at (by assumption) (M.sel (by first | ((repeat (first | with_reducible exact Sel.refl | with_reducible exact Sel.nil | with_reducible exact Del.here | with_reducible apply Del.there | with_reducible apply Sel.cons | with_reducible apply Sel.drop)); done) | (repeat (first | exact Sel.refl | exact Sel.nil | exact Del.here | apply Del.there | apply Sel.cons | apply Sel.drop)))) | exact M.rdLit' (by first | ((repeat (first | with_reducible exact Has.here | with_reducible refine Has.there ?_)); done) | (repeat (first | exact Has.here | refine Has.there ?_))) | exact M.rdLent (by first | ((repeat (first | with_reducible exact Has.here | with_reducible refine Has.there ?_)); done) | (repeat (first | exact Has.here | refine Has.there ?_))) | exact RdB.nil _ _) (by omega)) rfl rfl (by rw [fixed_length]; omega) rfl ?_
    intro A4_13 cap4_13 w M
    refine WL.assign rfl rfl ?_
    refine WL.nil ?_
    refine WX.blockNormal ?_
    refine WX.next ?_
    refine W.sub [(0, _), (7, _), (8, _), (9, _)] (.cons rfl (.cons rfl (.cons rfl (.cons rfl .nil)))) ?_
    refine W.region ?_
    refine WL.add rfl rfl (by first | exact wI64 (by omega) | rfl) rfl ?_
    refine WL.move rfl rfl ?_
    refine WL.nil ?_
    skip
    have hm2 : m ++ fixed (el ls i) = l ++ (ls.take (i + 1)).flatMap fixed := by
      rw [take_snocN (by omega), List.flatMap_append, hm]
      simp [List.append_assoc]
    refine WX.round ((i + 1, ⟨A4_13, cap4_13, m ++ fixed (el ls i)⟩)) (by (repeat' (first | exact envSub.nil | refine envSub.cons ?_ ?_)) <;> first | rfl | (refine congrArg some ?_; refine congrArg (Value.int _) ?_; first | omega | (dsimp only; omega)) | (simp; done) | (refine congrArg some ?_; dsimp only; congr 1; omega) | (simp; omega)) ⟨M.sel (by first | ((repeat (first | with_reducible exact Sel.refl | with_reducible exact Sel.nil | with_reducible exact Del.here | with_reducible apply Del.there | with_reducible apply Sel.cons | with_reducible apply Sel.drop)); done) | (repeat (first | exact Sel.refl | exact Sel.nil | exact Del.here | apply Del.there | apply Sel.cons | apply Sel.drop))), ⟨by omega, hm2, by rw [List.length_append, fixed_length]; omega⟩⟩ (by first | omega | (dsimp only; omega))
  · refine W.exit ?_
    refine WX.thenExit ?_
    refine WX.thenExit ?_
    refine WX.blockHere ?_
    refine WX.next ?_
    refine W.seq ?_
    refine W.region ?_
    refine WL.move rfl rfl ?_
    refine WL.assign rfl rfl ?_
    refine WL.nil ?_
    refine WX.next ?_
    refine W.sub [(4, _)] (.cons rfl .nil) ?_
    refine W.ret ?_
    refine WX.ret1 rfl rfl ?_
    obtain rfl : i = ls.length := by omega
    rw [List.take_length] at hm
    exact ⟨⟨C, cC, m⟩, rfl, hm, M.sel (by first | ((repeat (first | with_reducible exact Sel.refl | with_reducible exact Sel.nil | with_reducible exact Del.here | with_reducible apply Del.there | with_reducible apply Sel.cons | with_reducible apply Sel.drop)); done) | (repeat (first | exact Sel.refl | exact Sel.nil | exact Del.here | apply Del.there | apply Sel.cons | apply Sel.drop)))⟩
end Go.Proofs.Ytinbcidgdbmcjaa
