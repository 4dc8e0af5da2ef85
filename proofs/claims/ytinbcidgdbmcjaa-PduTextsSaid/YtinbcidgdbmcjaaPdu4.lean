/-
  Walks: are two messages the same (seawallref20); messages one behind the other (pdu).
-/
import Derived.Laws.StructEq
import Derived.Test.YtinbcidgdbmcjaaPdu3
namespace Go.Proofs.Ytinbcidgdbmcjaa
open Go Go.RowKit Bin

def agg7 (a : Nat → Nat) : Value := .agg #[.int .u32 (a 0 : Int), .int .u32 (a 1 : Int), .int .u32 (a 2 : Int), .int .u32 (a 3 : Int), .int .u32 (a 4 : Int), .int .u32 (a 5 : Int), .int .u32 (a 6 : Int)]
def Eq7 (a b : Nat → Nat) : Prop := ∀ i, i < 7 → a i = b i
theorem eq7_iff {a b : Nat → Nat} : Eq7 a b ↔ (a 0 = b 0 ∧ a 1 = b 1 ∧ a 2 = b 2 ∧ a 3 = b 3 ∧ a 4 = b 4 ∧ a 5 = b 5 ∧ a 6 = b 6) := by
  constructor
  · intro h
    exact ⟨h 0 (by decide), h 1 (by decide), h 2 (by decide), h 3 (by decide), h 4 (by decide), h 5 (by decide), h 6 (by decide)⟩
  · rintro ⟨h0, h1, h2, h3, h4, h5, h6⟩ i hi
    match i, hi with
    | 0, _ => exact h0
    | 1, _ => exact h1
    | 2, _ => exact h2
    | 3, _ => exact h3
    | 4, _ => exact h4
    | 5, _ => exact h5
    | 6, _ => exact h6
instance (a b : Nat → Nat) : Decidable (Eq7 a b) := decidable_of_iff _ eq7_iff.symm
theorem equal7 (w : World) (a b : Nat → Nat) : (Op.equalIn 10000 24 (agg7 a) (agg7 b)).run Try.prog w = .ok (decide (Eq7 a b)) w := by
  obtain ⟨i, hi, _⟩ := info_parts (P := Try.prog) (e := 23) (z := .int .u32 0) (size := 1) (bytes := 4) (by kernel_rfl)
  unfold agg7
  rw [run_equalIn_array w 9999 _ _ Try.underlying24 hi]
  have q : ∀ (w : World) (a b : Int), (Op.equalIn 9999 23 (.int .u32 a) (.int .u32 b)).run Try.prog w = .ok (a == b) w := fun w a b => run_equalIn_int w 9998 _ _ _ _ _ Try.underlying23
  have z : ∀ w, (isAgg 23).run Try.prog w = .ok false w := Try.isAgg23
  have c1 : Try.prog.cellsOf 23 = 1 := by kernel_rfl
  rw [c1, show List.range 7 = [0, 1, 2, 3, 4, 5, 6] from rfl, show decide (Eq7 a b) = decide (a 0 = b 0 ∧ a 1 = b 1 ∧ a 2 = b 2 ∧ a 3 = b 3 ∧ a 4 = b 4 ∧ a 5 = b 5 ∧ a 6 = b 6) from decide_eq_decide.2 eq7_iff]
  simp only [Op.eqItems]
  simp [part, q, z]
  by_cases h0 : a 0 = b 0
  rotate_left
  · simp [h0]
    try omega
  by_cases h1 : a 1 = b 1
  rotate_left
  · simp [h0, h1]
    try omega
  by_cases h2 : a 2 = b 2
  rotate_left
  · simp [h0, h1, h2]
    try omega
  by_cases h3 : a 3 = b 3
  rotate_left
  · simp [h0, h1, h2, h3]
    try omega
  by_cases h4 : a 4 = b 4
  rotate_left
  · simp [h0, h1, h2, h3, h4]
    try omega
  by_cases h5 : a 5 = b 5
  rotate_left
  · simp [h0, h1, h2, h3, h4, h5]
    try omega
  by_cases h6 : a 6 = b 6
  rotate_left
  · simp [h0, h1, h2, h3, h4, h5, h6]
    try omega
  simp [h0, h1, h2, h3, h4, h5, h6]
theorem WL.eq7 {n : Nat} {ρ : List (Nat × Value)} {w : World} {rest : List Oper} {X : SqV Try.prog n} {d : Nat} {ty : TypeId} {pos : String} {aft : Array Edge} {x y : Operand} {t' : TypeId} (a b : Nat → Nat)
    (hx : ev ρ x = some (agg7 a)) (hy : ev ρ y = some (agg7 b)) (hd : Nat.blt d n = true) (kk : X.S rest ((d, .bool (decide (Eq7 a b))) :: ρ) w) : X.S (⟨some d, .binOp .eql 24 x y t', ty, pos, aft, none⟩ :: rest) ρ w := by
  refine WL.val rfl rfl hd (fun f hf => ?_) kk
  have he := equal7 w a b
  unfold agg7 at he hx hy
  have hg := run_eqGuard_agg (P := Try.prog) w .eql 24 x y #[.int .u32 (a 0 : Int), .int .u32 (a 1 : Int), .int .u32 (a 2 : Int), .int .u32 (a 3 : Int), .int .u32 (a 4 : Int), .int .u32 (a 5 : Int), .int .u32 (a 6 : Int)] #[.int .u32 (b 0 : Int), .int .u32 (b 1 : Int), .int .u32 (b 2 : Int), .int .u32 (b 3 : Int), .int .u32 (b 4 : Int), .int .u32 (b 5 : Int), .int .u32 (b 6 : Int)] (by kernel_rfl)
  have hb := run_eql_struct (P := Try.prog) w 24 #[.int .u32 (a 0 : Int), .int .u32 (a 1 : Int), .int .u32 (a 2 : Int), .int .u32 (a 3 : Int), .int .u32 (a 4 : Int), .int .u32 (a 5 : Int), .int .u32 (a 6 : Int)] #[.int .u32 (b 0 : Int), .int .u32 (b 1 : Int), .int .u32 (b 2 : Int), .int .u32 (b 3 : Int), .int .u32 (b 4 : Int), .int .u32 (b 5 : Int), .int .u32 (b 6 : Int)]
  rw [he] at hb
  simp [execOp, hf.eval hx, hf.eval hy, hg, hb]
theorem row7 {w0 w : World} {L : List Asr} {g : Nat} (p : PdX) (M : Mem w0 w L) (h : Has (Asr.row g 27 p.cells) L) : ∀ j v, [Value.int .u32 (p.ws 0 : Int), .int .u32 (p.ws 1 : Int), .int .u32 (p.ws 2 : Int), .int .u32 (p.ws 3 : Int), .int .u32 (p.ws 4 : Int), .int .u32 (p.ws 5 : Int), .int .u32 (p.ws 6 : Int)][j]? = some v → w.cell? ((⟨g, 5, none⟩ : Addr).add j) = some v := fun j v hv => by
  have hj : j < 7 := (List.getElem?_eq_some_iff.1 hv).1
  rw [add_lit, M.cellH h]
  match j, hj with
  | 0, _ => exact hv
  | 1, _ => exact hv
  | 2, _ => exact hv
  | 3, _ => exact hv
  | 4, _ => exact hv
  | 5, _ => exact hv
  | 6, _ => exact hv
instance (a b : MX) : Decidable (SameM a b) := decidable_of_iff (a.op = b.op ∧ a.now = b.now ∧ a.flags = b.flags ∧ a.lun = b.lun ∧ a.tag = b.tag ∧ Eq7 a.ws b.ws ∧ a.l = b.l) Iff.rfl

set_option maxRecDepth 10000 in
theorem SameR_ok (p q : PdX) {w0 : World} (hp : RdB w0 p.x.A p.x.cap p.x.l) (hq : RdB w0 q.x.A q.x.cap q.x.l) :
    Fn Try.prog 22 [p.v, q.v] w0 fun v w' => v = .bool (decide (SameM p.m q.m)) ∧ Mem w0 w' [] := by
  have M := Mem.refl w0
  obtain ⟨w, hw⟩ : ∃ w, w = w0 := ⟨w0, rfl⟩
  obtain ⟨op1, now1, fl1, lun1, tag1, ws1, ⟨A1, c1', l1⟩⟩ := p
  obtain ⟨op2, now2, fl2, lun2, tag2, ws2, ⟨A2, c2', l2⟩⟩ := q
  unfold PdX.v
  dsimp only at hp hq ⊢
  refine Fn.enter Try.func22 rfl Try.ntmps22 rfl ?_
  refine W.sub [(0, _), (1, _)] (.cons rfl (.cons rfl .nil)) ?_
  refine W.seq ?_
  refine W.region ?_
  refine WL.box rfl M rfl ?_
  intro g0_0 w M
  try simp only [Value.cells] at M
  try simp only [List.toList_toArray] at M
  refine WL.box rfl M rfl ?_
  intro g0_1 w M
  try simp only [Value.cells] at M
  try simp only [List.toList_toArray] at M
  refine WL.assign rfl rfl ?_
  refine WL.nil ?_
  refine WX.next ?_
  refine W.sub [(2, _), (3, _)] (.cons rfl (.cons rfl .nil)) ?_
  refine W.seq ?_
  refine W.region ?_
  refine WL.fieldR (off := 0) Try.underlying27 rfl rfl Try.sizeOf3 rfl rfl rfl ?_
  refine WL.loadR Try.isAgg3 rfl M (by first | ((repeat (first | with_reducible exact Has.here | with_reducible refine Has.there ?_)); done) | (repeat (first | exact Has.here | refine Has.there ?_))) rfl rfl ?_
  refine WL.fieldR (off := 0) Try.underlying27 rfl rfl Try.sizeOf3 rfl rfl rfl ?_
  refine WL.loadR Try.isAgg3 rfl M (by first | ((repeat (first | with_reducible exact Has.here | with_reducible refine Has.there ?_)); done) | (repeat (first | exact Has.here | refine Has.there ?_))) rfl rfl ?_
  refine WL.eqI rfl rfl rfl ?_
  refine WL.moveIf rfl rfl (fun c0 => ?_) (fun c0 => ?_)
  · refine WL.on rfl rfl ?_
    refine WL.fieldR (off := 1) Try.underlying27 rfl rfl Try.sizeOf4 rfl rfl rfl ?_
    refine WL.on rfl rfl ?_
    refine WL.loadR Try.isAgg4 rfl M (by first | ((repeat (first | with_reducible exact Has.here | with_reducible refine Has.there ?_)); done) | (repeat (first | exact Has.here | refine Has.there ?_))) rfl rfl ?_
    refine WL.on rfl rfl ?_
    refine WL.fieldR (off := 1) Try.underlying27 rfl rfl Try.sizeOf4 rfl rfl rfl ?_
    refine WL.on rfl rfl ?_
    refine WL.loadR Try.isAgg4 rfl M (by first | ((repeat (first | with_reducible exact Has.here | with_reducible refine Has.there ?_)); done) | (repeat (first | exact Has.here | refine Has.there ?_))) rfl rfl ?_
    refine WL.on rfl rfl ?_
    refine WL.eqB Try.underlying4 rfl rfl rfl ?_
    refine WL.pickT rfl rfl rfl ?_
    refine WL.moveIf rfl rfl (fun c1 => ?_) (fun c1 => ?_)
    · refine WL.on rfl rfl ?_
      refine WL.fieldR (off := 2) Try.underlying27 rfl rfl Try.sizeOf5 rfl rfl rfl ?_
      refine WL.on rfl rfl ?_
      refine WL.loadR Try.isAgg5 rfl M (by first | ((repeat (first | with_reducible exact Has.here | with_reducible refine Has.there ?_)); done) | (repeat (first | exact Has.here | refine Has.there ?_))) rfl rfl ?_
      refine WL.on rfl rfl ?_
      refine WL.fieldR (off := 2) Try.underlying27 rfl rfl Try.sizeOf5 rfl rfl rfl ?_
      refine WL.on rfl rfl ?_
      refine WL.loadR Try.isAgg5 rfl M (by first | ((repeat (first | with_reducible exact Has.here | with_reducible refine Has.there ?_)); done) | (repeat (first | exact Has.here | refine Has.there ?_))) rfl rfl ?_
      refine WL.on rfl rfl ?_
      refine WL.eqI rfl rfl rfl ?_
      refine WL.pickT rfl rfl rfl ?_
      refine WL.moveIf rfl rfl (fun c2 => ?_) (fun c2 => ?_)
      · refine WL.on rfl rfl ?_
        refine WL.fieldR (off := 3) Try.underlying27 rfl rfl Try.sizeOf22 rfl rfl rfl ?_
        refine WL.on rfl rfl ?_
        refine WL.loadR Try.isAgg22 rfl M (by first | ((repeat (first | with_reducible exact Has.here | with_reducible refine Has.there ?_)); done) | (repeat (first | exact Has.here | refine Has.there ?_))) rfl rfl ?_
        refine WL.on rfl rfl ?_
        refine WL.fieldR (off := 3) Try.underlying27 rfl rfl Try.sizeOf22 rfl rfl rfl ?_
        refine WL.on rfl rfl ?_
        refine WL.loadR Try.isAgg22 rfl M (by first | ((repeat (first | with_reducible exact Has.here | with_reducible refine Has.there ?_)); done) | (repeat (first | exact Has.here | refine Has.there ?_))) rfl rfl ?_
        refine WL.on rfl rfl ?_
        refine WL.eqI rfl rfl rfl ?_
        refine WL.pickT rfl rfl rfl ?_
        refine WL.moveIf rfl rfl (fun c3 => ?_) (fun c3 => ?_)
        · refine WL.on rfl rfl ?_
          refine WL.fieldR (off := 4) Try.underlying27 rfl rfl Try.sizeOf23 rfl rfl rfl ?_
          refine WL.on rfl rfl ?_
          refine WL.loadR Try.isAgg23 rfl M (by first | ((repeat (first | with_reducible exact Has.here | with_reducible refine Has.there ?_)); done) | (repeat (first | exact Has.here | refine Has.there ?_))) rfl rfl ?_
          refine WL.on rfl rfl ?_
          refine WL.fieldR (off := 4) Try.underlying27 rfl rfl Try.sizeOf23 rfl rfl rfl ?_
          refine WL.on rfl rfl ?_
          refine WL.loadR Try.isAgg23 rfl M (by first | ((repeat (first | with_reducible exact Has.here | with_reducible refine Has.there ?_)); done) | (repeat (first | exact Has.here | refine Has.there ?_))) rfl rfl ?_
          refine WL.on rfl rfl ?_
          refine WL.eqI rfl rfl rfl ?_
          refine WL.pickT rfl rfl rfl ?_
          refine WL.moveIf rfl rfl (fun c4 => ?_) (fun c4 => ?_)
          · refine WL.on rfl rfl ?_
            refine WL.fieldR (off := 5) Try.underlying27 rfl rfl Try.sizeOf24 rfl rfl rfl ?_
            refine WL.on rfl rfl ?_
            refine WL.loadAgg (cs := [_, _, _, _, _, _, _]) Try.isAgg24 Try.sizeOf24 rfl (row7 ⟨op1, now1, fl1, lun1, tag1, ws1, ⟨A1, c1', l1⟩⟩ M (by first | ((repeat (first | with_reducible exact Has.here | with_reducible refine Has.there ?_)); done) | (repeat (first | exact Has.here | refine Has.there ?_)))) rfl ?_
            refine WL.on rfl rfl ?_
            refine WL.fieldR (off := 5) Try.underlying27 rfl rfl Try.sizeOf24 rfl rfl rfl ?_
            refine WL.on rfl rfl ?_
            refine WL.loadAgg (cs := [_, _, _, _, _, _, _]) Try.isAgg24 Try.sizeOf24 rfl (row7 ⟨op2, now2, fl2, lun2, tag2, ws2, ⟨A2, c2', l2⟩⟩ M (by first | ((repeat (first | with_reducible exact Has.here | with_reducible refine Has.there ?_)); done) | (repeat (first | exact Has.here | refine Has.there ?_)))) rfl ?_
            refine WL.on rfl rfl ?_
            refine WL.eq7 ws1 ws2 rfl rfl rfl ?_
            refine WL.pickT rfl rfl rfl ?_
            refine WL.moveIf rfl rfl (fun c5 => ?_) (fun c5 => ?_)
            · refine WL.on rfl rfl ?_
              refine WL.fieldR (off := 12) Try.underlying27 rfl rfl Try.sizeOf25 rfl rfl rfl ?_
              refine WL.on rfl rfl ?_
              refine WL.loadR Try.isAgg25 rfl M (by first | ((repeat (first | with_reducible exact Has.here | with_reducible refine Has.there ?_)); done) | (repeat (first | exact Has.here | refine Has.there ?_))) rfl rfl ?_
              refine WL.on rfl rfl ?_
              refine WL.toStr Try.underlying25 Try.underlying5 Try.underlying9 rfl (hp.mem M) rfl rfl ?_
              refine WL.on rfl rfl ?_
              refine WL.fieldR (off := 12) Try.underlying27 rfl rfl Try.sizeOf25 rfl rfl rfl ?_
              refine WL.on rfl rfl ?_
              refine WL.loadR Try.isAgg25 rfl M (by first | ((repeat (first | with_reducible exact Has.here | with_reducible refine Has.there ?_)); done) | (repeat (first | exact Has.here | refine Has.there ?_))) rfl rfl ?_
              refine WL.on rfl rfl ?_
              refine WL.toStr Try.underlying25 Try.underlying5 Try.underlying9 rfl (hq.mem M) rfl rfl ?_
              refine WL.on rfl rfl ?_
              refine WL.eqS rfl rfl rfl ?_
              refine WL.pickT rfl rfl rfl ?_
              refine WL.assign rfl rfl ?_
              refine WL.nil ?_
              refine WX.next ?_
              refine W.sub [(4, _)] (.cons rfl .nil) ?_
              refine W.ret ?_
              refine WX.ret1 rfl rfl ?_
              refine ⟨congrArg Value.bool ?_, M.sel (by first | ((repeat (first | with_reducible exact Sel.refl | with_reducible exact Sel.nil | with_reducible exact Del.here | with_reducible apply Del.there | with_reducible apply Sel.cons | with_reducible apply Sel.drop)); done) | (repeat (first | exact Sel.refl | exact Sel.nil | exact Del.here | apply Del.there | apply Sel.cons | apply Sel.drop)))⟩
              unfold PdX.m
              first
              | exact (decide_eq_false (fun h => c0 h.1)).symm
              | exact (decide_eq_false (fun h => c1 h.2.1)).symm
              | exact (decide_eq_false (fun h => c2 (congrArg (fun x : UInt8 => (x.toNat : Int)) h.2.2.1))).symm
              | exact (decide_eq_false (fun h => c3 (congrArg (fun x : Nat => (x : Int)) h.2.2.2.1))).symm
              | exact (decide_eq_false (fun h => c4 (congrArg (fun x : Nat => (x : Int)) h.2.2.2.2.1))).symm
              | exact (decide_eq_false (fun h => c5 h.2.2.2.2.2.1)).symm
              | exact decide_eq_decide.2 ⟨fun h => ⟨c0, c1, UInt8.toNat_inj.1 (by dsimp only; omega), by dsimp only; omega, by dsimp only; omega, c5, h⟩, fun h => h.2.2.2.2.2.2⟩
            · refine WL.off rfl rfl rfl rfl ?_
              refine WL.off rfl rfl rfl rfl ?_
              refine WL.off rfl rfl rfl rfl ?_
              refine WL.off rfl rfl rfl rfl ?_
              refine WL.off rfl rfl rfl rfl ?_
              refine WL.off rfl rfl rfl rfl ?_
              refine WL.off rfl rfl rfl rfl ?_
              refine WL.pickF rfl rfl rfl ?_
              refine WL.assign rfl rfl ?_
              refine WL.nil ?_
              refine WX.next ?_
              refine W.sub [(4, _)] (.cons rfl .nil) ?_
              refine W.ret ?_
              refine WX.ret1 rfl rfl ?_
              refine ⟨congrArg Value.bool ?_, M.sel (by first | ((repeat (first | with_reducible exact Sel.refl | with_reducible exact Sel.nil | with_reducible exact Del.here | with_reducible apply Del.there | with_reducible apply Sel.cons | with_reducible apply Sel.drop)); done) | (repeat (first | exact Sel.refl | exact Sel.nil | exact Del.here | apply Del.there | apply Sel.cons | apply Sel.drop)))⟩
              unfold PdX.m
              first
              | exact (decide_eq_false (fun h => c0 h.1)).symm
              | exact (decide_eq_false (fun h => c1 h.2.1)).symm
              | exact (decide_eq_false (fun h => c2 (congrArg (fun x : UInt8 => (x.toNat : Int)) h.2.2.1))).symm
              | exact (decide_eq_false (fun h => c3 (congrArg (fun x : Nat => (x : Int)) h.2.2.2.1))).symm
              | exact (decide_eq_false (fun h => c4 (congrArg (fun x : Nat => (x : Int)) h.2.2.2.2.1))).symm
              | exact (decide_eq_false (fun h => c5 h.2.2.2.2.2.1)).symm
              | exact decide_eq_decide.2 ⟨fun h => ⟨c0, c1, UInt8.toNat_inj.1 (by dsimp only; omega), by dsimp only; omega, by dsimp only; omega, c5, h⟩, fun h => h.2.2.2.2.2.2⟩
          · refine WL.off rfl rfl rfl rfl ?_
            refine WL.off rfl rfl rfl rfl ?_
            refine WL.off rfl rfl rfl rfl ?_
            refine WL.off rfl rfl rfl rfl ?_
            refine WL.off rfl rfl rfl rfl ?_
            refine WL.pickF rfl rfl rfl ?_
            refine WL.move rfl rfl ?_
            refine WL.off rfl rfl rfl rfl ?_
            refine WL.off rfl rfl rfl rfl ?_
            refine WL.off rfl rfl rfl rfl ?_
            refine WL.off rfl rfl rfl rfl ?_
            refine WL.off rfl rfl rfl rfl ?_
            refine WL.off rfl rfl rfl rfl ?_
            refine WL.off rfl rfl rfl rfl ?_
            refine WL.pickF rfl rfl rfl ?_
            refine WL.assign rfl rfl ?_
            refine WL.nil ?_
            refine WX.next ?_
            refine W.sub [(4, _)] (.cons rfl .nil) ?_
            refine W.ret ?_
            refine WX.ret1 rfl rfl ?_
            refine ⟨congrArg Value.bool ?_, M.sel (by first | ((repeat (first | with_reducible exact Sel.refl | with_reducible exact Sel.nil | with_reducible exact Del.here | with_reducible apply Del.there | with_reducible apply Sel.cons | with_reducible apply Sel.drop)); done) | (repeat (first | exact Sel.refl | exact Sel.nil | exact Del.here | apply Del.there | apply Sel.cons | apply Sel.drop)))⟩
            unfold PdX.m
            first
            | exact (decide_eq_false (fun h => c0 h.1)).symm
            | exact (decide_eq_false (fun h => c1 h.2.1)).symm
            | exact (decide_eq_false (fun h => c2 (congrArg (fun x : UInt8 => (x.toNat : Int)) h.2.2.1))).symm
            | exact (decide_eq_false (fun h => c3 (congrArg (fun x : Nat => (x : Int)) h.2.2.2.1))).symm
            | exact (decide_eq_false (fun h => c4 (congrArg (fun x : Nat => (x : Int)) h.2.2.2.2.1))).symm
            | exact (decide_eq_false (fun h => c5 h.2.2.2.2.2.1)).symm
            | exact decide_eq_decide.2 ⟨fun h => ⟨c0, c1, UInt8.toNat_inj.1 (by dsimp only; omega), by dsimp only; omega, by dsimp only; omega, c5, h⟩, fun h => h.2.2.2.2.2.2⟩
        · refine WL.off rfl rfl rfl rfl ?_
          refine WL.off rfl rfl rfl rfl ?_
          refine WL.off rfl rfl rfl rfl ?_
          refine WL.off rfl rfl rfl rfl ?_
          refine WL.off rfl rfl rfl rfl ?_
          refine WL.pickF rfl rfl rfl ?_
          refine WL.move rfl rfl ?_
          refine WL.off rfl rfl rfl rfl ?_
          refine WL.off rfl rfl rfl rfl ?_
          refine WL.off rfl rfl rfl rfl ?_
          refine WL.off rfl rfl rfl rfl ?_
          refine WL.off rfl rfl rfl rfl ?_
          refine WL.pickF rfl rfl rfl ?_
          refine WL.move rfl rfl ?_
          refine WL.off rfl rfl rfl rfl ?_
          refine WL.off rfl rfl rfl rfl ?_
          refine WL.off rfl rfl rfl rfl ?_
          refine WL.off rfl rfl rfl rfl ?_
          refine WL.off rfl rfl rfl rfl ?_
          refine WL.off rfl rfl rfl rfl ?_
          refine WL.off rfl rfl rfl rfl ?_
          refine WL.pickF rfl rfl rfl ?_
          refine WL.assign rfl rfl ?_
          refine WL.nil ?_
          refine WX.next ?_
          refine W.sub [(4, _)] (.cons rfl .nil) ?_
          refine W.ret ?_
          refine WX.ret1 rfl rfl ?_
          refine ⟨congrArg Value.bool ?_, M.sel (by first | ((repeat (first | with_reducible exact Sel.refl | with_reducible exact Sel.nil | with_reducible exact Del.here | with_reducible apply Del.there | with_reducible apply Sel.cons | with_reducible apply Sel.drop)); done) | (repeat (first | exact Sel.refl | exact Sel.nil | exact Del.here | apply Del.there | apply Sel.cons | apply Sel.drop)))⟩
          unfold PdX.m
          first
          | exact (decide_eq_false (fun h => c0 h.1)).symm
          | exact (decide_eq_false (fun h => c1 h.2.1)).symm
          | exact (decide_eq_false (fun h => c2 (congrArg (fun x : UInt8 => (x.toNat : Int)) h.2.2.1))).symm
          | exact (decide_eq_false (fun h => c3 (congrArg (fun x : Nat => (x : Int)) h.2.2.2.1))).symm
          | exact (decide_eq_false (fun h => c4 (congrArg (fun x : Nat => (x : Int)) h.2.2.2.2.1))).symm
          | exact (decide_eq_false (fun h => c5 h.2.2.2.2.2.1)).symm
          | exact decide_eq_decide.2 ⟨fun h => ⟨c0, c1, UInt8.toNat_inj.1 (by dsimp only; omega), by dsimp only; omega, by dsimp only; omega, c5, h⟩, fun h => h.2.2.2.2.2.2⟩
      · refine WL.off rfl rfl rfl rfl ?_
        refine WL.off rfl rfl rfl rfl ?_
        refine WL.off rfl rfl rfl rfl ?_
        refine WL.off rfl rfl rfl rfl ?_
        refine WL.off rfl rfl rfl rfl ?_
        refine WL.pickF rfl rfl rfl ?_
        refine WL.move rfl rfl ?_
        refine WL.off rfl rfl rfl rfl ?_
        refine WL.off rfl rfl rfl rfl ?_
        refine WL.off rfl rfl rfl rfl ?_
        refine WL.off rfl rfl rfl rfl ?_
        refine WL.off rfl rfl rfl rfl ?_
        refine WL.pickF rfl rfl rfl ?_
        refine WL.move rfl rfl ?_
        refine WL.off rfl rfl rfl rfl ?_
        refine WL.off rfl rfl rfl rfl ?_
        refine WL.off rfl rfl rfl rfl ?_
        refine WL.off rfl rfl rfl rfl ?_
        refine WL.off rfl rfl rfl rfl ?_
        refine WL.pickF rfl rfl rfl ?_
        refine WL.move rfl rfl ?_
        refine WL.off rfl rfl rfl rfl ?_
        refine WL.off rfl rfl rfl rfl ?_
        refine WL.off rfl rfl rfl rfl ?_
        refine WL.off rfl rfl rfl rfl ?_
        refine WL.off rfl rfl rfl rfl ?_
        refine WL.off rfl rfl rfl rfl ?_
        refine WL.off rfl rfl rfl rfl ?_
        refine WL.pickF rfl rfl rfl ?_
        refine WL.assign rfl rfl ?_
        refine WL.nil ?_
        refine WX.next ?_
        refine W.sub [(4, _)] (.cons rfl .nil) ?_
        refine W.ret ?_
        refine WX.ret1 rfl rfl ?_
        refine ⟨congrArg Value.bool ?_, M.sel (by first | ((repeat (first | with_reducible exact Sel.refl | with_reducible exact Sel.nil | with_reducible exact Del.here | with_reducible apply Del.there | with_reducible apply Sel.cons | with_reducible apply Sel.drop)); done) | (repeat (first | exact Sel.refl | exact Sel.nil | exact Del.here | apply Del.there | apply Sel.cons | apply Sel.drop)))⟩
        unfold PdX.m
        first
        | exact (decide_eq_false (fun h => c0 h.1)).symm
        | exact (decide_eq_false (fun h => c1 h.2.1)).symm
        | exact (decide_eq_false (fun h => c2 (congrArg (fun x : UInt8 => (x.toNat : Int)) h.2.2.1))).symm
        | exact (decide_eq_false (fun h => c3 (congrArg (fun x : Nat => (x : Int)) h.2.2.2.1))).symm
        | exact (decide_eq_false (fun h => c4 (congrArg (fun x : Nat => (x : Int)) h.2.2.2.2.1))).symm
        | exact (decide_eq_false (fun h => c5 h.2.2.2.2.2.1)).symm
        | exact decide_eq_decide.2 ⟨fun h => ⟨c0, c1, UInt8.toNat_inj.1 (by dsimp only; omega), by dsimp only; omega, by dsimp only; omega, c5, h⟩, fun h => h.2.2.2.2.2.2⟩
    · refine WL.off rfl rfl rfl rfl ?_
      refine WL.off rfl rfl rfl rfl ?_
      refine WL.off rfl rfl rfl rfl ?_
      refine WL.off rfl rfl rfl rfl ?_
      refine WL.off rfl rfl rfl rfl ?_
      refine WL.pickF rfl rfl rfl ?_
      refine WL.move rfl rfl ?_
      refine WL.off rfl rfl rfl rfl ?_
      refine WL.off rfl rfl rfl rfl ?_
      refine WL.off rfl rfl rfl rfl ?_
      refine WL.off rfl rfl rfl rfl ?_
      refine WL.off rfl rfl rfl rfl ?_
      refine WL.pickF rfl rfl rfl ?_
      refine WL.move rfl rfl ?_
      refine WL.off rfl rfl rfl rfl ?_
      refine WL.off rfl rfl rfl rfl ?_
      refine WL.off rfl rfl rfl rfl ?_
      refine WL.off rfl rfl rfl rfl ?_
      refine WL.off rfl rfl rfl rfl ?_
      refine WL.pickF rfl rfl rfl ?_
      refine WL.move rfl rfl ?_
      refine WL.off rfl rfl rfl rfl ?_
      refine WL.off rfl rfl rfl rfl ?_
      refine WL.off rfl rfl rfl rfl ?_
      refine WL.off rfl rfl rfl rfl ?_
      refine WL.off rfl rfl rfl rfl ?_
      refine WL.pickF rfl rfl rfl ?_
      refine WL.move rfl rfl ?_
      refine WL.off rfl rfl rfl rfl ?_
      refine WL.off rfl rfl rfl rfl ?_
      refine WL.off rfl rfl rfl rfl ?_
      refine WL.off rfl rfl rfl rfl ?_
      refine WL.off rfl rfl rfl rfl ?_
      refine WL.off rfl rfl rfl rfl ?_
      refine WL.off rfl rfl rfl rfl ?_
      refine WL.pickF rfl rfl rfl ?_
      refine WL.assign rfl rfl ?_
      refine WL.nil ?_
      refine WX.next ?_
      refine W.sub [(4, _)] (.cons rfl .nil) ?_
      refine W.ret ?_
      refine WX.ret1 rfl rfl ?_
      refine ⟨congrArg Value.bool ?_, M.sel (by first | ((repeat (first | with_reducible exact Sel.refl | with_reducible exact Sel.nil | with_reducible exact Del.here | with_reducible apply Del.there | with_reducible apply Sel.cons | with_reducible apply Sel.drop)); done) | (repeat (first | exact Sel.refl | exact Sel.nil | exact Del.here | apply Del.there | apply Sel.cons | apply Sel.drop)))⟩
      unfold PdX.m
      first
      | exact (decide_eq_false (fun h => c0 h.1)).symm
      | exact (decide_eq_false (fun h => c1 h.2.1)).symm
      | exact (decide_eq_false (fun h => c2 (congrArg (fun x : UInt8 => (x.toNat : Int)) h.2.2.1))).symm
      | exact (decide_eq_false (fun h => c3 (congrArg (fun x : Nat => (x : Int)) h.2.2.2.1))).symm
      | exact (decide_eq_false (fun h => c4 (congrArg (fun x : Nat => (x : Int)) h.2.2.2.2.1))).symm
      | exact (decide_eq_false (fun h => c5 h.2.2.2.2.2.1)).symm
      | exact decide_eq_decide.2 ⟨fun h => ⟨c0, c1, UInt8.toNat_inj.1 (by dsimp only; omega), by dsimp only; omega, by dsimp only; omega, c5, h⟩, fun h => h.2.2.2.2.2.2⟩
  · refine WL.off rfl rfl rfl rfl ?_
    refine WL.off rfl rfl rfl rfl ?_
    refine WL.off rfl rfl rfl rfl ?_
    refine WL.off rfl rfl rfl rfl ?_
    refine WL.off rfl rfl rfl rfl ?_
    refine WL.pickF rfl rfl rfl ?_
    refine WL.move rfl rfl ?_
    refine WL.off rfl rfl rfl rfl ?_
    refine WL.off rfl rfl rfl rfl ?_
    refine WL.off rfl rfl rfl rfl ?_
    refine WL.off rfl rfl rfl rfl ?_
    refine WL.off rfl rfl rfl rfl ?_
    refine WL.pickF rfl rfl rfl ?_
    refine WL.move rfl rfl ?_
    refine WL.off rfl rfl rfl rfl ?_
    refine WL.off rfl rfl rfl rfl ?_
    refine WL.off rfl rfl rfl rfl ?_
    refine WL.off rfl rfl rfl rfl ?_
    refine WL.off rfl rfl rfl rfl ?_
    refine WL.pickF rfl rfl rfl ?_
    refine WL.move rfl rfl ?_
    refine WL.off rfl rfl rfl rfl ?_
    refine WL.off rfl rfl rfl rfl ?_
    refine WL.off rfl rfl rfl rfl ?_
    refine WL.off rfl rfl rfl rfl ?_
    refine WL.off rfl rfl rfl rfl ?_
    refine WL.pickF rfl rfl rfl ?_
    refine WL.move rfl rfl ?_
    refine WL.off rfl rfl rfl rfl ?_
    refine WL.off rfl rfl rfl rfl ?_
    refine WL.off rfl rfl rfl rfl ?_
    refine WL.off rfl rfl rfl rfl ?_
    refine WL.off rfl rfl rfl rfl ?_
    refine WL.pickF rfl rfl rfl ?_
    refine WL.move rfl rfl ?_
    refine WL.off rfl rfl rfl rfl ?_
    refine WL.off rfl rfl rfl rfl ?_
    refine WL.off rfl rfl rfl rfl ?_
    refine WL.off rfl rfl rfl rfl ?_
    refine WL.off rfl rfl rfl rfl ?_
    refine WL.off rfl rfl rfl rfl ?_
    refine WL.off rfl rfl rfl rfl ?_
    refine WL.pickF rfl rfl rfl ?_
    refine WL.assign rfl rfl ?_
    refine WL.nil ?_
    refine WX.next ?_
    refine W.sub [(4, _)] (.cons rfl .nil) ?_
    refine W.ret ?_
    refine WX.ret1 rfl rfl ?_
    refine ⟨congrArg Value.bool ?_, M.sel (by first | ((repeat (first | with_reducible exact Sel.refl | with_reducible exact Sel.nil | with_reducible exact Del.here | with_reducible apply Del.there | with_reducible apply Sel.cons | with_reducible apply Sel.drop)); done) | (repeat (first | exact Sel.refl | exact Sel.nil | exact Del.here | apply Del.there | apply Sel.cons | apply Sel.drop)))⟩
    unfold PdX.m
    first
    | exact (decide_eq_false (fun h => c0 h.1)).symm
    | exact (decide_eq_false (fun h => c1 h.2.1)).symm
    | exact (decide_eq_false (fun h => c2 (congrArg (fun x : UInt8 => (x.toNat : Int)) h.2.2.1))).symm
    | exact (decide_eq_false (fun h => c3 (congrArg (fun x : Nat => (x : Int)) h.2.2.2.1))).symm
    | exact (decide_eq_false (fun h => c4 (congrArg (fun x : Nat => (x : Int)) h.2.2.2.2.1))).symm
    | exact (decide_eq_false (fun h => c5 h.2.2.2.2.2.1)).symm
    | exact decide_eq_decide.2 ⟨fun h => ⟨c0, c1, UInt8.toNat_inj.1 (by dsimp only; omega), by dsimp only; omega, by dsimp only; omega, c5, h⟩, fun h => h.2.2.2.2.2.2⟩
theorem Sames_ok {A1 : Option Addr} {k1 : Nat} {ps : List PdX} {A2 : Option Addr} {k2 : Nat} {qs : List PdX} {w0 : World} (h1 : RdL w0 pduE A1 k1 ps) (h2 : RdL w0 pduE A2 k2 qs) (d1 : ∀ p ∈ ps, RdB w0 p.x.A p.x.cap p.x.l) (d2 : ∀ p ∈ qs, RdB w0 p.x.A p.x.cap p.x.l) (hl : ps.length ≤ 1000000) :
    Fn Try.prog 28 [.slice A1 ps.length k1, .slice A2 qs.length k2] w0 fun v w' => v = .bool (decide (ps.length = qs.length ∧ ∀ i, i < ps.length → SameM (el ps i).m (el qs i).m)) ∧ Mem w0 w' [] := by
  have M := Mem.refl w0
  obtain ⟨w, hw⟩ : ∃ w, w = w0 := ⟨w0, rfl⟩
  refine Fn.enter Try.func28 rfl Try.ntmps28 rfl ?_
  refine W.sub [(0, _), (1, _)] (.cons rfl (.cons rfl .nil)) ?_
  refine W.seq ?_
  refine W.region ?_
  refine WL.assign rfl rfl ?_
  refine WL.nil ?_
  refine WX.next ?_
  refine W.sub [(0, _), (1, _)] (.cons rfl (.cons rfl .nil)) ?_
  refine W.seq ?_
  refine W.seq ?_
  refine W.region ?_
  refine WL.move rfl rfl ?_
  refine WL.len Try.underlying55 rfl rfl ?_
  refine WL.move rfl rfl ?_
  refine WL.len Try.underlying55 rfl rfl ?_
  refine WL.neI rfl rfl rfl ?_
  refine WL.nil ?_
  refine WX.next ?_
  refine W.sub [(0, _), (1, _), (10, _)] (.cons rfl (.cons rfl (.cons rfl .nil))) ?_
  refine W.ite rfl (fun c0 => ?_) (fun c0 => ?_)
  · refine W.seq ?_
    refine W.region ?_
    refine WL.assign rfl rfl ?_
    refine WL.nil ?_
    refine WX.next ?_
    refine W.sub [(4, _)] (.cons rfl .nil) ?_
    refine W.ret ?_
    refine WX.thenRet ?_
    refine WX.ret1 rfl rfl ?_
    exact ⟨congrArg Value.bool (decide_eq_false (fun h => c0 (by omega))).symm, M⟩
  · refine W.skip ?_
    refine WX.next ?_
    refine W.seq ?_
    refine W.seq ?_
    refine W.region ?_
    refine WL.assign rfl rfl ?_
    refine WL.nil ?_
    refine WX.next ?_
    refine W.sub [(0, _), (1, _), (5, _)] (.cons rfl (.cons rfl (.cons rfl .nil))) ?_
    refine W.block ?_
    refine W.loop (ι := Nat) (fun i => [(0, .slice A1 ps.length k1), (1, .slice A2 qs.length k2), (5, .int .i64 (i : Int))]) (fun zz w => Mem w0 w ((fun _ => []) zz) ∧ (fun i => i ≤ ps.length ∧ ∀ j, j < i → SameM (el ps j).m (el qs j).m) zz) (fun i => ps.length - i) (0) (by (repeat' (first | exact envSub.nil | refine envSub.cons ?_ ?_)) <;> first | rfl | (refine congrArg some ?_; refine congrArg (Value.int _) ?_; first | omega | (dsimp only; omega)) | (simp; done) | (refine congrArg some ?_; dsimp only; congr 1; omega) | (simp; omega)) ⟨M.sel (by first | ((repeat (first | with_reducible exact Sel.refl | with_reducible exact Sel.nil | with_reducible exact Del.here | with_reducible apply Del.there | with_reducible apply Sel.cons | with_reducible apply Sel.drop)); done) | (repeat (first | exact Sel.refl | exact Sel.nil | exact Del.here | apply Del.there | apply Sel.cons | apply Sel.drop))), ⟨Nat.zero_le _, fun j hj => absurd hj (Nat.not_lt_zero _)⟩⟩ ?_
    clear M; rintro (i) w ⟨M, ⟨hi, hs⟩⟩; dsimp only at M hi hs ⊢
    refine W.sub [(0, _), (1, _), (5, _)] (.cons rfl (.cons rfl (.cons rfl .nil))) ?_
    refine W.seq ?_
    refine W.seq ?_
    refine W.region ?_
    refine WL.move rfl rfl ?_
    refine WL.move rfl rfl ?_
    refine WL.len Try.underlying55 rfl rfl ?_
    refine WL.lss rfl rfl rfl ?_
    refine WL.nil ?_
    refine WX.next ?_
    refine W.sub [(0, _), (1, _), (5, _), (14, _)] (.cons rfl (.cons rfl (.cons rfl (.cons rfl .nil)))) ?_
    refine W.ite rfl (fun c1 => ?_) (fun c1 => ?_)
    · refine W.skip ?_
      refine WX.next ?_
      refine W.seq ?_
      refine W.block ?_
      refine W.seq ?_
      refine W.drawM ([]) (by kernel_rfl) (fun j => [3, 7].contains j) M (by first | ((repeat (first | with_reducible exact Sel.refl | with_reducible exact Sel.nil | with_reducible exact Del.here | with_reducible apply Del.there | with_reducible apply Sel.cons | with_reducible apply Sel.drop)); done) | (repeat (first | exact Sel.refl | exact Sel.nil | exact Del.here | apply Del.there | apply Sel.cons | apply Sel.drop))) ?_
      clear M; intro M
      apply DG.pure_ [0, 1, 2, 4, 5, 6] 4 rfl (by kernel_rfl) (by kernel_rfl)
      · intro w
        refine WL.move rfl rfl ?_
        refine WL.move rfl rfl ?_
        refine WL.idxA Try.underlying55 Try.sizeOf27 rfl rfl (RdL.isSome (E := pduE) (by first | with_reducible assumption | with_reducible exact RdL.mem (by with_reducible assumption) M | exact M.rdL (by first | ((repeat (first | with_reducible exact Has.here | with_reducible refine Has.there ?_)); done) | (repeat (first | exact Has.here | refine Has.there ?_))) | exact RdLH.at (by assumption) (M.sel (by first | ((repeat (first | with_reducible exact Sel.refl | with_reducible exact Sel.nil | with_reducible exact Del.here | with_reducible apply Del.there | with_reducible apply Sel.cons | with_reducible apply Sel.drop)); done) | (repeat (first | exact Sel.refl | exact Sel.nil | exact Del.here | apply Del.there | apply Sel.cons | apply Sel.drop)))) | exact RdL.nil _ _ _) (by omega)) (by omega) (by omega) (by first | exact rfl | exact (Int.toNat_of_nonneg (by omega)).symm) rfl ?_
        refine WL.move rfl rfl ?_
        refine WL.move rfl rfl ?_
        refine WL.idxA Try.underlying55 Try.sizeOf27 rfl rfl (RdL.isSome (E := pduE) (by first | with_reducible assumption | with_reducible exact RdL.mem (by with_reducible assumption) M | exact M.rdL (by first | ((repeat (first | with_reducible exact Has.here | with_reducible refine Has.there ?_)); done) | (repeat (first | exact Has.here | refine Has.there ?_))) | exact RdLH.at (by assumption) (M.sel (by first | ((repeat (first | with_reducible exact Sel.refl | with_reducible exact Sel.nil | with_reducible exact Del.here | with_reducible apply Del.there | with_reducible apply Sel.cons | with_reducible apply Sel.drop)); done) | (repeat (first | exact Sel.refl | exact Sel.nil | exact Del.here | apply Del.there | apply Sel.cons | apply Sel.drop)))) | exact RdL.nil _ _ _) (by omega)) (by omega) (by omega) (by first | exact rfl | exact (Int.toNat_of_nonneg (by omega)).symm) rfl ?_
        exact Chain.end_ rfl
      apply DG.take [3, 7] 2 rfl (by kernel_rfl) (by kernel_rfl) (M.sel (by first | ((repeat (first | with_reducible exact Sel.refl | with_reducible exact Sel.nil | with_reducible exact Del.here | with_reducible apply Del.there | with_reducible apply Sel.cons | with_reducible apply Sel.drop)); done) | (repeat (first | exact Sel.refl | exact Sel.nil | exact Del.here | apply Del.there | apply Sel.cons | apply Sel.drop))))
      · intro w M
        refine WL.loadL (E := pduE) (cs := [_, _, _, _, _, _, _, _, _, _, _, _, _]) Try.isAgg27 Try.sizeOf27 rfl (by first | with_reducible assumption | with_reducible exact RdL.mem (by with_reducible assumption) M | exact M.rdL (by first | ((repeat (first | with_reducible exact Has.here | with_reducible refine Has.there ?_)); done) | (repeat (first | exact Has.here | refine Has.there ?_))) | exact RdLH.at (by assumption) (M.sel (by first | ((repeat (first | with_reducible exact Sel.refl | with_reducible exact Sel.nil | with_reducible exact Del.here | with_reducible apply Del.there | with_reducible apply Sel.cons | with_reducible apply Sel.drop)); done) | (repeat (first | exact Sel.refl | exact Sel.nil | exact Del.here | apply Del.there | apply Sel.cons | apply Sel.drop)))) | exact RdL.nil _ _ _) rfl (by omega) rfl rfl ?_
        refine WL.loadL (E := pduE) (cs := [_, _, _, _, _, _, _, _, _, _, _, _, _]) Try.isAgg27 Try.sizeOf27 rfl (by first | with_reducible assumption | with_reducible exact RdL.mem (by with_reducible assumption) M | exact M.rdL (by first | ((repeat (first | with_reducible exact Has.here | with_reducible refine Has.there ?_)); done) | (repeat (first | exact Has.here | refine Has.there ?_))) | exact RdLH.at (by assumption) (M.sel (by first | ((repeat (first | with_reducible exact Sel.refl | with_reducible exact Sel.nil | with_reducible exact Del.here | with_reducible apply Del.there | with_reducible apply Sel.cons | with_reducible apply Sel.drop)); done) | (repeat (first | exact Sel.refl | exact Sel.nil | exact Del.here | apply Del.there | apply Sel.cons | apply Sel.drop)))) | exact RdL.nil _ _ _) rfl (by omega) rfl rfl ?_
        exact Chain.end_ rfl
      refine DG.step 8 1 rfl (by kernel_rfl) ?_
      refine WL.call Try.call22 rfl (SameR_ok (el ps i) (el qs i) ((d1 _ (el_mem (by omega))).mem M) ((d2 _ (el_mem (by omega))).mem M)) rfl ?_
      rintro _ w ⟨rfl, m⟩
      replace M := M.call0 m; clear m
      refine DG.go (G := fun j => [3, 7].contains j) (i := 8) (f' := 1) (done := [0, 1, 2, 4, 5, 6, 3, 7]) (fun h => by cases h) ?_
      apply DG.pure_ [9] 0 rfl (by kernel_rfl) (by kernel_rfl)
      · intro w
        refine WL.not rfl rfl ?_
        exact Chain.end_ rfl
      refine DG.end_ (by kernel_rfl) ?_
      refine WX.next ?_
      refine W.sub [(0, _), (1, _), (5, _), (26, _)] (.cons rfl (.cons rfl (.cons rfl (.cons rfl .nil)))) ?_
      refine W.cond rfl (fun c2 => ?_) (fun c2 => ?_)
      · (try simp only [Bool.not_eq_true'] at c2); (try simp only [Bool.not_eq_false'] at c2); (try simp only [decide_eq_true_eq] at c2); (try simp only [decide_eq_false_iff_not] at c2)
        refine W.seq ?_
        refine W.region ?_
        refine WL.assign rfl rfl ?_
        refine WL.nil ?_
        refine WX.next ?_
        refine W.sub [(4, _)] (.cons rfl .nil) ?_
        refine W.ret ?_
        refine WX.blockRet ?_
        refine WX.thenRet ?_
        refine WX.thenRet ?_
        refine WX.blockRet ?_
        refine WX.thenRet ?_
        refine WX.ret1 rfl rfl ?_
        exact ⟨congrArg Value.bool (decide_eq_false (fun h => c2 (h.2 i (by omega)))).symm, M.sel (by first | ((repeat (first | with_reducible exact Sel.refl | with_reducible exact Sel.nil | with_reducible exact Del.here | with_reducible apply Del.there | with_reducible apply Sel.cons | with_reducible apply Sel.drop)); done) | (repeat (first | exact Sel.refl | exact Sel.nil | exact Del.here | apply Del.there | apply Sel.cons | apply Sel.drop)))⟩
      · (try simp only [Bool.not_eq_true'] at c2); (try simp only [Bool.not_eq_false'] at c2); (try simp only [decide_eq_true_eq] at c2); (try simp only [decide_eq_false_iff_not] at c2)
        refine W.skip ?_
        refine WX.blockNormal ?_
        refine WX.next ?_
        refine W.region ?_
        refine WL.move rfl rfl ?_
        refine WL.add rfl rfl (by first | exact wI64 (by omega) | rfl) rfl ?_
        refine WL.assign rfl rfl ?_
        refine WL.nil ?_
        skip
        have hs2 : ∀ j, j < i + 1 → SameM (el ps j).m (el qs j).m := fun j hj => by
          rcases Nat.lt_or_ge j i with h | h
          · exact hs j h
          · obtain rfl : j = i := by omega
            exact c2
        refine WX.round (i + 1) (by (repeat' (first | exact envSub.nil | refine envSub.cons ?_ ?_)) <;> first | rfl | (refine congrArg some ?_; refine congrArg (Value.int _) ?_; first | omega | (dsimp only; omega)) | (simp; done) | (refine congrArg some ?_; dsimp only; congr 1; omega) | (simp; omega)) ⟨M.sel (by first | ((repeat (first | with_reducible exact Sel.refl | with_reducible exact Sel.nil | with_reducible exact Del.here | with_reducible apply Del.there | with_reducible apply Sel.cons | with_reducible apply Sel.drop)); done) | (repeat (first | exact Sel.refl | exact Sel.nil | exact Del.here | apply Del.there | apply Sel.cons | apply Sel.drop))), ⟨by omega, hs2⟩⟩ (by first | omega | (dsimp only; omega))
    · refine W.exit ?_
      refine WX.thenExit ?_
      refine WX.thenExit ?_
      refine WX.blockHere ?_
      refine WX.next ?_
      refine W.seq ?_
      refine W.region ?_
      refine WL.assign rfl rfl ?_
      refine WL.nil ?_
      refine WX.next ?_
      refine W.sub [(4, _)] (.cons rfl .nil) ?_
      refine W.ret ?_
      refine WX.ret1 rfl rfl ?_
      exact ⟨congrArg Value.bool (decide_eq_true ⟨by omega, fun j hj => hs j (by omega)⟩).symm, M.sel (by first | ((repeat (first | with_reducible exact Sel.refl | with_reducible exact Sel.nil | with_reducible exact Del.here | with_reducible apply Del.there | with_reducible apply Sel.cons | with_reducible apply Sel.drop)); done) | (repeat (first | exact Sel.refl | exact Sel.nil | exact Del.here | apply Del.there | apply Sel.cons | apply Sel.drop)))⟩
/-- Messages one behind the other. -/
def splitN : Nat → List UInt8 → List MX × Nat × Int
  | 0, _ => ([], 0, 0)
  | f + 1, b => if getE b = 10 then ([], 0, 0) else if getE b ≠ 0 then ([], 0, getE b) else (hdM b :: (splitN f (b.drop (endM b))).1, endM b + (splitN f (b.drop (endM b))).2.1, (splitN f (b.drop (endM b))).2.2)
theorem splitN_more : ∀ (f g : Nat) (b : List UInt8), b.length < f → f ≤ g → splitN g b = splitN f b
  | 0, _, _, h, _ => absurd h (Nat.not_lt_zero _)
  | f + 1, 0, _, _, h => absurd h (Nat.not_succ_le_zero _)
  | f + 1, g + 1, b, h, hg => by
    unfold splitN
    by_cases h1 : getE b = 10
    · rw [if_pos h1, if_pos h1]
    · rw [if_neg h1, if_neg h1]
      by_cases h2 : getE b ≠ 0
      · rw [if_pos h2, if_pos h2]
      · rw [if_neg h2, if_neg h2]
        have h3 : getE b = 0 := by omega
        obtain ⟨h48, _, _, _, he, _⟩ := getE_zero h3
        have hE : 48 ≤ endM b := by unfold endM; omega
        rw [splitN_more f g (b.drop (endM b)) (by rw [List.length_drop]; omega) (by omega)]
def splitM (b : List UInt8) : List MX × Nat × Int := splitN (b.length + 1) b
theorem splitM_step {b : List UInt8} (h : getE b = 0) : splitM b = (hdM b :: (splitM (b.drop (endM b))).1, endM b + (splitM (b.drop (endM b))).2.1, (splitM (b.drop (endM b))).2.2) := by
  obtain ⟨h48, _, _, _, he, _⟩ := getE_zero h
  have hE : 48 ≤ endM b := by unfold endM; omega
  have e : splitM b = splitN (b.length + 1) b := rfl
  rw [e]
  unfold splitN
  rw [if_neg (by omega), if_neg (by omega)]
  have e2 : splitN b.length (b.drop (endM b)) = splitM (b.drop (endM b)) := splitN_more _ _ _ (by rw [List.length_drop]; omega) (by rw [List.length_drop]; omega)
  rw [e2]
theorem splitM_short {b : List UInt8} (h : getE b = 10) : splitM b = ([], 0, 0) := by
  show splitN (b.length + 1) b = _
  unfold splitN
  rw [if_pos h]
theorem splitM_bad {b : List UInt8} (h : getE b ≠ 10) (h0 : getE b ≠ 0) : splitM b = ([], 0, getE b) := by
  show splitN (b.length + 1) b = _
  unfold splitN
  rw [if_neg h, if_pos h0]
theorem endM_in {b : List UInt8} (h : getE b = 0) : 48 ≤ endM b ∧ endM b ≤ b.length := by
  obtain ⟨h48, _, _, _, he, _⟩ := getE_zero h
  exact ⟨by unfold endM; omega, he⟩
set_option maxHeartbeats 1000000 in
theorem Split_ok {A : Option Addr} {cap : Nat} {b : List UInt8} (hl : b.length ≤ 1000000) {w0 : World} (h : RdB w0 A cap b) :
    Fn Try.prog 26 [.slice A b.length cap] w0 fun v w' => ∃ (B : Option Addr) (cB : Nat) (ps : List PdX), v = .tuple #[.slice B ps.length cB, .int .i64 ((splitM b).2.1 : Int), .int .i64 (splitM b).2.2] ∧ ps.map PdX.m = (splitM b).1 ∧ Mem w0 w' [Asr.lst pduE B cB ps, Asr.star (ps.map PdX.O)] := by
  have M := Mem.refl w0
  obtain ⟨w, hw⟩ : ∃ w, w = w0 := ⟨w0, rfl⟩
  refine Fn.enter Try.func26 rfl Try.ntmps26 rfl ?_
  refine W.sub [(0, _)] (.cons rfl .nil) ?_
  refine W.seq ?_
  refine W.region ?_
  refine WL.assign rfl rfl ?_
  refine WL.assign rfl rfl ?_
  refine WL.assign rfl rfl ?_
  refine WL.nil ?_
  refine WX.next ?_
  refine W.sub [(0, _)] (.cons rfl .nil) ?_
  refine W.seq ?_
  refine W.region ?_
  refine WL.assign rfl rfl ?_
  refine WL.nil ?_
  refine WX.next ?_
  refine W.sub [(0, _), (5, _)] (.cons rfl (.cons rfl .nil)) ?_
  refine W.seq ?_
  have M2 : Mem w0 _ (Asr.lst pduE none 0 [] :: _) := M.nilOwn 27 13
  have M3 : Mem w0 _ (Asr.star (([] : List PdX).map PdX.O) :: _) := M2.starNil
  replace M := M3
  refine W.region ?_
  refine WL.assign rfl rfl ?_
  refine WL.nil ?_
  refine WX.next ?_
  refine W.sub [(0, _), (5, _), (6, _)] (.cons rfl (.cons rfl (.cons rfl .nil))) ?_
  refine W.block ?_
  refine W.loop (ι := Nat × List PdX × (Option Addr × Nat)) (fun z => [(0, .slice A b.length cap), (5, .slice z.2.2.1 z.2.1.length z.2.2.2), (6, .int .i64 (z.1 : Int))]) (fun zz w => Mem w0 w ((fun z => [Asr.star (z.2.1.map PdX.O), Asr.lst pduE z.2.2.1 z.2.2.2 z.2.1]) zz) ∧ (fun z => z.1 ≤ b.length ∧ z.2.1.map PdX.m ++ (splitM (b.drop z.1)).1 = (splitM b).1 ∧ z.1 + (splitM (b.drop z.1)).2.1 = (splitM b).2.1 ∧ (splitM (b.drop z.1)).2.2 = (splitM b).2.2 ∧ z.2.1.length ≤ z.1) zz) (fun z => b.length - z.1) ((0, [], (none, 0))) (by (repeat' (first | exact envSub.nil | refine envSub.cons ?_ ?_)) <;> first | rfl | (refine congrArg some ?_; refine congrArg (Value.int _) ?_; first | omega | (dsimp only; omega)) | (simp; done) | (refine congrArg some ?_; dsimp only; congr 1; omega) | (simp; omega)) ⟨M.sel (by first | ((repeat (first | with_reducible exact Sel.refl | with_reducible exact Sel.nil | with_reducible exact Del.here | with_reducible apply Del.there | with_reducible apply Sel.cons | with_reducible apply Sel.drop)); done) | (repeat (first | exact Sel.refl | exact Sel.nil | exact Del.here | apply Del.there | apply Sel.cons | apply Sel.drop))), ⟨Nat.zero_le _, by simp, by simp, by simp, Nat.le_refl _⟩⟩ ?_
  clear M; rintro (⟨i, ps, ⟨B, cB⟩⟩) w ⟨M, ⟨hi, hp1, hp2, hp3, hpl⟩⟩; dsimp only at M hi hp1 hp2 hp3 hpl ⊢
  refine W.sub [(0, _), (5, _), (6, _)] (.cons rfl (.cons rfl (.cons rfl .nil))) ?_
  refine W.block ?_
  refine W.seq ?_
  refine W.region ?_
  refine WL.move rfl rfl ?_
  refine WL.move rfl rfl ?_
  refine WL.cutL (m' := (b.drop i).length) Try.underlying25 Try.sizeOf5 rfl rfl (by omega) (by omega) (by first | exact rfl | exact (Int.toNat_of_nonneg (by omega)).symm) (by first | (rw [sub_length (by omega) (by omega)]) | (simp only [List.length_drop] <;> omega) | (simp only [List.length_take] <;> omega) | (simp only [List.length_take, List.length_drop] <;> omega) | (simp; done) | (simp; omega)) rfl ?_
  refine WL.call Try.call21 rfl (Get_ok (b := b.drop i) (by rw [List.length_drop]; omega) ((h.mem M).suf hi)) rfl ?_
  rintro _ w ⟨p, rfl, m, hg, hb⟩
  replace M := M.call1 m; clear m
  unfold PdX.v
  refine WL.move rfl rfl ?_
  refine WL.extractL rfl rfl rfl ?_
  refine WL.extractL rfl rfl rfl ?_
  refine WL.extractL rfl rfl rfl ?_
  refine WL.alloc Try.zeroValue27 M rfl ?_
  intro g3_8 w M
  try simp only [Value.cells] at M
  try simp only [List.toList_toArray] at M
  refine WL.storeWA Try.sizeOf27 rfl rfl (by repeat (first | exact oneNil | refine oneCons rfl ?_)) rfl rfl M (by first | ((repeat (first | with_reducible exact Upd.here | with_reducible apply Upd.there)); done) | (repeat (first | exact Upd.here | apply Upd.there))) ?_
  intro w M
  refine WL.assign rfl rfl ?_
  refine WL.assign rfl rfl ?_
  refine WL.nil ?_
  refine WX.next ?_
  refine W.sub [(0, _), (5, _), (6, _), (7, _), (8, _), (9, _)] (.cons rfl (.cons rfl (.cons rfl (.cons rfl (.cons rfl (.cons rfl .nil)))))) ?_
  refine W.seq ?_
  refine W.seq ?_
  refine W.region ?_
  refine WL.move rfl rfl ?_
  refine WL.eqI rfl rfl rfl ?_
  refine WL.nil ?_
  refine WX.next ?_
  refine W.sub [(0, _), (5, _), (6, _), (7, _), (8, _), (9, _), (19, _)] (.cons rfl (.cons rfl (.cons rfl (.cons rfl (.cons rfl (.cons rfl (.cons rfl .nil))))))) ?_
  refine W.ite rfl (fun c0 => ?_) (fun c0 => ?_)
  · refine W.seq ?_
    refine W.region ?_
    refine WL.move rfl rfl ?_
    refine WL.move rfl rfl ?_
    refine WL.assign rfl rfl ?_
    refine WL.assign rfl rfl ?_
    refine WL.assign rfl rfl ?_
    refine WL.nil ?_
    refine WX.next ?_
    refine W.sub [(2, _), (3, _), (4, _)] (.cons rfl (.cons rfl (.cons rfl .nil))) ?_
    refine W.ret ?_
    refine WX.thenRet ?_
    refine WX.blockRet ?_
    refine WX.thenRet ?_
    refine WX.blockRet ?_
    refine WX.ret3 rfl rfl rfl rfl ?_
    rw [splitM_short c0, List.append_nil] at hp1
    rw [splitM_short c0] at hp2 hp3
    exact ⟨B, cB, ps, by rw [← hp2, ← hp3]; rfl, hp1, M.sel (by first | ((repeat (first | with_reducible exact Sel.refl | with_reducible exact Sel.nil | with_reducible exact Del.here | with_reducible apply Del.there | with_reducible apply Sel.cons | with_reducible apply Sel.drop)); done) | (repeat (first | exact Sel.refl | exact Sel.nil | exact Del.here | apply Del.there | apply Sel.cons | apply Sel.drop)))⟩
  · refine W.skip ?_
    refine WX.next ?_
    refine W.seq ?_
    refine W.seq ?_
    refine W.region ?_
    refine WL.move rfl rfl ?_
    refine WL.neI rfl rfl rfl ?_
    refine WL.nil ?_
    refine WX.next ?_
    refine W.sub [(0, _), (5, _), (6, _), (7, _), (8, _), (9, _), (23, _)] (.cons rfl (.cons rfl (.cons rfl (.cons rfl (.cons rfl (.cons rfl (.cons rfl .nil))))))) ?_
    refine W.ite rfl (fun c1 => ?_) (fun c1 => ?_)
    · refine W.seq ?_
      refine W.region ?_
      refine WL.move rfl rfl ?_
      refine WL.move rfl rfl ?_
      refine WL.move rfl rfl ?_
      refine WL.assign rfl rfl ?_
      refine WL.assign rfl rfl ?_
      refine WL.assign rfl rfl ?_
      refine WL.nil ?_
      refine WX.next ?_
      refine W.sub [(2, _), (3, _), (4, _)] (.cons rfl (.cons rfl (.cons rfl .nil))) ?_
      refine W.ret ?_
      refine WX.thenRet ?_
      refine WX.blockRet ?_
      refine WX.thenRet ?_
      refine WX.blockRet ?_
      refine WX.ret3 rfl rfl rfl rfl ?_
      have hbd := splitM_bad (b := b.drop i) (fun e => c0 e) (fun e => c1 e)
      rw [hbd, List.append_nil] at hp1
      rw [hbd] at hp2 hp3
      exact ⟨B, cB, ps, by rw [← hp2, ← hp3]; rfl, hp1, M.sel (by first | ((repeat (first | with_reducible exact Sel.refl | with_reducible exact Sel.nil | with_reducible exact Del.here | with_reducible apply Del.there | with_reducible apply Sel.cons | with_reducible apply Sel.drop)); done) | (repeat (first | exact Sel.refl | exact Sel.nil | exact Del.here | apply Del.there | apply Sel.cons | apply Sel.drop)))⟩
    · have hg0 : getE (b.drop i) = 0 := by omega
      have hgm := hg hg0
      obtain ⟨hE, he⟩ := endM_in hg0
      have hst := splitM_step hg0
      rw [List.drop_drop] at hst
      rw [List.length_drop] at he
      obtain ⟨E, hE0⟩ : ∃ E, endM (b.drop i) = E := ⟨_, rfl⟩
      rw [hE0] at hst he hE
      rw [hg0, if_pos rfl, hE0]
      refine W.skip ?_
      refine WX.next ?_
      refine W.seq ?_
      refine W.region ?_
      refine WL.move rfl rfl ?_
      refine WL.loadW Try.isAgg27 Try.sizeOf27 rfl M (by first | ((repeat (first | with_reducible exact Has.here | with_reducible refine Has.there ?_)); done) | (repeat (first | exact Has.here | refine Has.there ?_))) rfl rfl ?_
      refine WL.buildL (E := pduE) (l := [p]) Try.elem27 M rfl rfl rfl rfl rfl rfl ?_
      intro g8_2 w M
      refine WL.appendL (E := pduE) Try.elem27 rfl rfl M (by first | ((repeat (first | with_reducible exact Del.here | with_reducible apply Del.there)); done) | (repeat (first | exact Del.here | apply Del.there))) (by first | with_reducible assumption | with_reducible exact RdL.mem (by with_reducible assumption) M | exact M.rdL (by first | ((repeat (first | with_reducible exact Has.here | with_reducible refine Has.there ?_)); done) | (repeat (first | exact Has.here | refine Has.there ?_))) | exact RdLH.at (by assumption) (M.sel (by first | ((repeat (first | with_reducible exact Sel.refl | with_reducible exact Sel.nil | with_reducible exact Del.here | with_reducible apply Del.there | with_reducible apply Sel.cons | with_reducible apply Sel.drop)); done) | (repeat (first | exact Sel.refl | exact Sel.nil | exact Del.here | apply Del.there | apply Sel.cons | apply Sel.drop)))) | exact RdL.nil _ _ _) rfl rfl (by first | omega | (simp; done) | (simp; omega)) (by first | (simp only [maxLen]; omega) | (simp [maxLen]; done) | (simp [maxLen]; omega)) rfl ?_
      intro A8_3 cap8_3 w M
      refine WL.assign rfl rfl ?_
      refine WL.nil ?_
      refine WX.next ?_
      refine W.sub [(0, _), (5, _), (6, _), (8, _)] (.cons rfl (.cons rfl (.cons rfl (.cons rfl .nil)))) ?_
      refine W.region ?_
      refine WL.move rfl rfl ?_
      refine WL.move rfl rfl ?_
      refine WL.add rfl rfl (by first | exact wI64 (by omega) | rfl) rfl ?_
      refine WL.assign rfl rfl ?_
      refine WL.nil ?_
      refine WX.blockNormal ?_
      skip
      have M2 := Mem.starSnoc (M.sel (K := p.O :: Asr.star (ps.map PdX.O) :: [Asr.lst pduE A8_3 cap8_3 (ps ++ [p])]) (by first | ((repeat (first | with_reducible exact Sel.refl | with_reducible exact Sel.nil | with_reducible exact Del.here | with_reducible apply Del.there | with_reducible apply Sel.cons | with_reducible apply Sel.drop)); done) | (repeat (first | exact Sel.refl | exact Sel.nil | exact Del.here | apply Del.there | apply Sel.cons | apply Sel.drop))))
      have em : ps.map PdX.O ++ [p.O] = (ps ++ [p]).map PdX.O := by simp
      rw [em] at M2
      replace M := M2
      have q1 : (ps ++ [p]).map PdX.m ++ (splitM (b.drop (i + E))).1 = (splitM b).1 := by
        rw [← hp1, hst, List.map_append, hgm.symm]
        simp
      have q2 : i + E + (splitM (b.drop (i + E))).2.1 = (splitM b).2.1 := by
        rw [← hp2, hst]
        dsimp only
        omega
      have q3 : (splitM (b.drop (i + E))).2.2 = (splitM b).2.2 := by
        rw [← hp3, hst]
      refine WX.round ((i + E, ps ++ [p], (A8_3, cap8_3))) (by (repeat' (first | exact envSub.nil | refine envSub.cons ?_ ?_)) <;> first | rfl | (refine congrArg some ?_; refine congrArg (Value.int _) ?_; first | omega | (dsimp only; omega)) | (simp; done) | (refine congrArg some ?_; dsimp only; congr 1; omega) | (simp; omega)) ⟨M.sel (by first | ((repeat (first | with_reducible exact Sel.refl | with_reducible exact Sel.nil | with_reducible exact Del.here | with_reducible apply Del.there | with_reducible apply Sel.cons | with_reducible apply Sel.drop)); done) | (repeat (first | exact Sel.refl | exact Sel.nil | exact Del.here | apply Del.there | apply Sel.cons | apply Sel.drop))), ⟨by dsimp only; omega, q1, q2, q3, by rw [List.length_append, List.length_singleton]; dsimp only; omega⟩⟩ (by dsimp only; omega)
end Go.Proofs.Ytinbcidgdbmcjaa
