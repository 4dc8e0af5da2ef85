/-
  Walks: the document's receiver (seawallref07).
-/
import Derived.Test.YtgaegaaaoopolaaSess4
namespace Go.Proofs.Ytgaegaaaoopolaa
open Go Go.RowKit

/-- A piece that is kept, as it lies. -/
structure EX where
  seq : Nat
  x : OX
instance : Inhabited EX := ⟨⟨0, default⟩⟩
def EX.key (e : EX) : Nat × List UInt8 := (e.seq, e.x.l)
def EX.O (e : EX) : Asr := e.x.O
def rearlyE : Enc EX := ⟨108, 2, fun e => [.int .u64 (e.seq : Int), e.x.v], fun _ => rfl, (fun a v hv => by
  simp only [List.mem_cons, List.not_mem_nil, or_false] at hv
  rcases hv with rfl | rfl <;> rfl), by decide⟩
theorem Try.elem108 : Elem Try.prog 68 108 2 32 := by
  obtain ⟨i, hi, h1, h2, h3⟩ := info_parts (P := Try.prog) (e := 108) (z := .agg #[.int .u64 0, .slice none 0 0]) (size := 2) (bytes := 32) (by kernel_rfl)
  exact ⟨Try.underlying68, ⟨i, _, hi, h1, h2, h3, rfl⟩, by decide⟩

theorem mget_el : ∀ (ls : List EX) (k j : Nat), j < ls.length → (el ls j).seq = k → (∀ i, i < j → (el ls i).seq ≠ k) → mget (ls.map EX.key) k = some (el ls j).x.l
  | [], _, _, h, _, _ => absurd h (Nat.not_lt_zero _)
  | a :: ls, k, 0, _, h, _ => by
    rw [List.map_cons]
    show mget ((a.seq, a.x.l) :: _) k = _
    rw [mget_cons, if_pos (show a.seq = k from h)]
    rfl
  | a :: ls, k, j + 1, hj, h, hi => by
    rw [List.map_cons]
    show mget ((a.seq, a.x.l) :: _) k = _
    rw [mget_cons, if_neg (show ¬ a.seq = k from hi 0 (by omega))]
    exact mget_el ls k j (by simpa using hj) h fun i h' => hi (i + 1) (by omega)
theorem mget_no (ls : List EX) (k : Nat) (h : ∀ i, i < ls.length → (el ls i).seq ≠ k) : mget (ls.map EX.key) k = none := by
  apply mget_none
  intro hm
  rw [List.map_map] at hm
  obtain ⟨e, he, hk⟩ := List.mem_map.1 hm
  obtain ⟨i, hi, rfl⟩ := List.getElem_of_mem he
  refine h i hi ?_
  rw [← hk]
  simp [el, hi, EX.key]

/-- What 'has' answers. -/
def Found (ls : List EX) (k : Nat) (n : Int) : Prop := (n = -1 ∧ mget (ls.map EX.key) k = none) ∨ ∃ j : Nat, n = (j : Int) ∧ j < ls.length ∧ mget (ls.map EX.key) k = some (el ls j).x.l

theorem has_ok (g : Nat) (B : Option Addr) (cB : Nat) (ls : List EX) (window life got seq : Nat) (w0 w : World) (L : List Asr) (hlen : ls.length < 1000000000)
    (M : Mem w0 w (Asr.row g 70 [.int .i64 (window : Int), .int .u64 (life : Int), .int .u64 (got : Int), .slice B ls.length cB] :: Asr.lst rearlyE B cB ls :: L)) :
    Fn Try.prog 46 [.pointer (some ⟨g, 0, none⟩), .int .u64 (seq : Int)] w fun v w' => ∃ n : Int, v = .int .i64 n ∧ Found ls seq n ∧
      Mem w0 w' (Asr.row g 70 [.int .i64 (window : Int), .int .u64 (life : Int), .int .u64 (got : Int), .slice B ls.length cB] :: Asr.lst rearlyE B cB ls :: L) := by
  refine Fn.enter Try.func46 rfl Try.ntmps46 rfl ?_
  refine W.sub [(0, _), (1, _)] (.cons rfl (.cons rfl .nil)) ?_
  refine W.seq ?_
  refine W.region ?_
  refine WL.assign rfl rfl ?_
  refine WL.nil ?_
  refine WX.next ?_
  refine W.sub [(0, _), (1, _)] (.cons rfl (.cons rfl .nil)) ?_
  refine W.seq ?_
  refine W.seq ?_
  refine W.region ?_
  refine WL.assign rfl rfl ?_
  refine WL.nil ?_
  refine WX.next ?_
  refine W.sub [(0, _), (1, _), (5, _)] (.cons rfl (.cons rfl (.cons rfl .nil))) ?_
  refine W.block ?_
  refine W.loop (ι := Nat) (fun i => [(0, .pointer (some ⟨g, 0, none⟩)), (1, .int .u64 (seq : Int)), (5, .int .i64 (i : Int))]) (fun i w => Mem w0 w ((fun _ => Asr.row g 70 [.int .i64 (window : Int), .int .u64 (life : Int), .int .u64 (got : Int), .slice B ls.length cB] :: Asr.lst rearlyE B cB ls :: L) i) ∧ (fun i => i ≤ ls.length ∧ ∀ j, j < i → (el ls j).seq ≠ seq) i) (fun i => ls.length - i) (0) (by (repeat' (first | exact envSub.nil | refine envSub.cons ?_ ?_)) <;> first | rfl | (refine congrArg some ?_; refine congrArg (Value.int _) ?_; first | omega | (dsimp only; omega)) | (simp; done) | (refine congrArg some ?_; dsimp only; congr 1; omega) | (simp; omega)) ⟨M.sel (by first | ((repeat (first | with_reducible exact Sel.refl | with_reducible exact Sel.nil | with_reducible exact Del.here | with_reducible apply Del.there | with_reducible apply Sel.cons | with_reducible apply Sel.drop)); done) | (repeat (first | exact Sel.refl | exact Sel.nil | exact Del.here | apply Del.there | apply Sel.cons | apply Sel.drop))), ⟨by omega, fun j hj => absurd hj (by omega)⟩⟩ ?_
  clear M; rintro (i) w ⟨M, ⟨hi, hs⟩⟩; dsimp only at M hi hs ⊢
  refine W.sub [(0, _), (1, _), (5, _)] (.cons rfl (.cons rfl (.cons rfl .nil))) ?_
  refine W.seq ?_
  refine W.seq ?_
  refine W.region ?_
  refine WL.move rfl rfl ?_
  refine WL.move rfl rfl ?_
  refine WL.nilCheck rfl rfl ?_
  refine WL.fieldR (off := 3) Try.underlying70 rfl rfl Try.sizeOf68 rfl rfl rfl ?_
  refine WL.loadR Try.isAgg68 rfl M (by first | ((repeat (first | with_reducible exact Has.here | with_reducible refine Has.there ?_)); done) | (repeat (first | exact Has.here | refine Has.there ?_))) rfl rfl ?_
  refine WL.len Try.underlying68 rfl rfl ?_
  refine WL.lss rfl rfl rfl ?_
  refine WL.nil ?_
  refine WX.next ?_
  refine W.sub [(0, _), (1, _), (5, _), (12, _)] (.cons rfl (.cons rfl (.cons rfl (.cons rfl .nil)))) ?_
  refine W.ite rfl (fun c0 => ?_) (fun c0 => ?_)
  · refine W.skip ?_
    refine WX.next ?_
    refine W.seq ?_
    refine W.block ?_
    refine W.seq ?_
    refine W.region ?_
    refine WL.move rfl rfl ?_
    refine WL.nilCheck rfl rfl ?_
    refine WL.fieldR (off := 3) Try.underlying70 rfl rfl Try.sizeOf68 rfl rfl rfl ?_
    refine WL.loadR Try.isAgg68 rfl M (by first | ((repeat (first | with_reducible exact Has.here | with_reducible refine Has.there ?_)); done) | (repeat (first | exact Has.here | refine Has.there ?_))) rfl rfl ?_
    refine WL.move rfl rfl ?_
    refine WL.idxA Try.underlying68 Try.sizeOf108 rfl rfl (RdL.isSome (E := rearlyE) (by first | with_reducible assumption | with_reducible exact RdL.mem (by with_reducible assumption) M | exact M.rdL (by first | ((repeat (first | with_reducible exact Has.here | with_reducible refine Has.there ?_)); done) | (repeat (first | exact Has.here | refine Has.there ?_))) | exact RdLH.at (by assumption) (M.sel (by first | ((repeat (first | with_reducible exact Sel.refl | with_reducible exact Sel.nil | with_reducible exact Del.here | with_reducible apply Del.there | with_reducible apply Sel.cons | with_reducible apply Sel.drop)); done) | (repeat (first | exact Sel.refl | exact Sel.nil | exact Del.here | apply Del.there | apply Sel.cons | apply Sel.drop)))) | exact RdL.nil _ _ _) (by omega)) (by omega) (by omega) (by first | exact rfl | exact (Int.toNat_of_nonneg (by omega)).symm) rfl ?_
    refine WL.fieldA (off := 0) Try.underlying108 rfl rfl Try.sizeOf22 rfl rfl rfl ?_
    refine WL.loadE (E := rearlyE) Try.isAgg22 rfl (by first | with_reducible assumption | with_reducible exact RdL.mem (by with_reducible assumption) M | exact M.rdL (by first | ((repeat (first | with_reducible exact Has.here | with_reducible refine Has.there ?_)); done) | (repeat (first | exact Has.here | refine Has.there ?_))) | exact RdLH.at (by assumption) (M.sel (by first | ((repeat (first | with_reducible exact Sel.refl | with_reducible exact Sel.nil | with_reducible exact Del.here | with_reducible apply Del.there | with_reducible apply Sel.cons | with_reducible apply Sel.drop)); done) | (repeat (first | exact Sel.refl | exact Sel.nil | exact Del.here | apply Del.there | apply Sel.cons | apply Sel.drop)))) | exact RdL.nil _ _ _) (by omega) rfl rfl ?_
    refine WL.move rfl rfl ?_
    refine WL.eqI rfl rfl rfl ?_
    refine WL.nil ?_
    refine WX.next ?_
    refine W.sub [(0, _), (1, _), (5, _), (24, _)] (.cons rfl (.cons rfl (.cons rfl (.cons rfl .nil)))) ?_
    refine W.ite rfl (fun c1 => ?_) (fun c1 => ?_)
    · refine W.seq ?_
      refine W.region ?_
      refine WL.move rfl rfl ?_
      refine WL.assign rfl rfl ?_
      refine WL.nil ?_
      refine WX.next ?_
      refine W.sub [(4, _)] (.cons rfl .nil) ?_
      refine W.ret ?_
      refine WX.blockRet ?_
      refine WX.thenRet ?_
      refine WX.thenRet ?_
      refine WX.blockRet ?_
      refine WX.thenRet ?_
      refine WX.ret1 rfl rfl ?_
      exact ⟨_, rfl, .inr ⟨i, rfl, by omega, mget_el ls seq i (by omega) (by omega) hs⟩, M⟩
    · refine W.skip ?_
      refine WX.blockNormal ?_
      refine WX.next ?_
      refine W.region ?_
      refine WL.move rfl rfl ?_
      refine WL.add rfl rfl (by first | exact wI64 (by omega) | rfl) rfl ?_
      refine WL.assign rfl rfl ?_
      refine WL.nil ?_
      skip
      have q : ∀ j, j < i + 1 → (el ls j).seq ≠ seq := by
        intro j hj
        rcases Nat.lt_or_ge j i with h | h
        · exact hs j h
        · obtain rfl : j = i := by omega
          omega
      refine WX.round (i + 1) (by (repeat' (first | exact envSub.nil | refine envSub.cons ?_ ?_)) <;> first | rfl | (refine congrArg some ?_; refine congrArg (Value.int _) ?_; first | omega | (dsimp only; omega)) | (simp; done) | (refine congrArg some ?_; dsimp only; congr 1; omega) | (simp; omega)) ⟨M.sel (by first | ((repeat (first | with_reducible exact Sel.refl | with_reducible exact Sel.nil | with_reducible exact Del.here | with_reducible apply Del.there | with_reducible apply Sel.cons | with_reducible apply Sel.drop)); done) | (repeat (first | exact Sel.refl | exact Sel.nil | exact Del.here | apply Del.there | apply Sel.cons | apply Sel.drop))), ⟨by omega, q⟩⟩ (by first | omega | (dsimp only; omega))
  · refine W.exit ?_
    refine WX.thenExit ?_
    refine WX.thenExit ?_
    refine WX.blockHere ?_
    refine WX.next ?_
    refine W.seq ?_
    refine W.region ?_
    refine WL.assign rfl rfl ?_
    refine WL.nil ?_
    refine WX.next ?_
    refine W.sub [(4, _)] (.cons rfl .nil) ?_
    refine W.ret ?_
    refine WX.ret1 rfl rfl ?_
    obtain rfl : i = ls.length := by omega
    exact ⟨_, rfl, .inl ⟨rfl, mget_no ls seq hs⟩, M⟩

/-- The document's receiver as it lies. -/
structure RrX where
  g : Nat
  A : Option Addr
  cap : Nat
  ls : List EX
  window : Nat
  life : Nat
  got : Nat
def RrX.row (x : RrX) : List Value := [.int .i64 (x.window : Int), .int .u64 (x.life : Int), .int .u64 (x.got : Int), .slice x.A x.ls.length x.cap]
def RrX.O (x : RrX) : Asr := Asr.star [Asr.row x.g 70 x.row, Asr.lst rearlyE x.A x.cap x.ls, Asr.star (x.ls.map EX.O)]
def RrX.p (x : RrX) : Value := .pointer (some ⟨x.g, 0, none⟩)
/-- It stands for a receiver. -/
structure RrX.is (x : RrX) (r : Rc) : Prop where
  win : x.window = r.window
  life : x.life = r.life
  got : x.got = r.got
  same : ∀ k, r.got < k → mget (x.ls.map EX.key) k = mget r.m k
  rng : ∀ p ∈ r.m, r.got < p.1 ∧ p.1 ≤ r.got + r.window

set_option maxRecDepth 10000 in
set_option maxHeartbeats 1000000 in
theorem refHearR_ok (x : RrX) (r : Rc) (hx : x.is r) (hr : r.ok) (hl : x.ls.length < 1000000) (q : SX) (hq1 : q.life < 18446744073709551616) (hq2 : q.seq < 18446744073709551616) (w0 w : World) (L L' : List Asr) (M : Mem w0 w L) (hd : Del x.O L L') (hb : RdH w0 L' q.x.A q.x.cap q.x.l) :
    Fn Try.prog 34 [x.p, q.v] w fun v w' => ∃ (x' : RrX) (A : Option Addr) (cap : Nat) (outs : List OX),
      v = .tuple #[.slice A outs.length cap, SX.v ⟨(rhA r q.key).1, (rhA r q.key).2.1, (rhA r q.key).2.2.1, ⟨none, 0, []⟩⟩, .int .i64 (rhE r q.key)] ∧ x'.g = x.g ∧ x'.is (rhS r q.key) ∧ x'.ls.length ≤ x.ls.length + 1 ∧
      outs.map OX.l = rhO r q.key ∧ (∀ o ∈ outs, ∃ e ∈ x'.ls, o = e.x) ∧ Mem w0 w' (Asr.lst oxE A cap outs :: x'.O :: L') := by
  replace M := (M.del hd).unstar3
  obtain ⟨hwin, hlife, hgot, hnd, hbody⟩ := hr
  obtain ⟨xw, xl, xg, hsame, hrng⟩ := hx
  unfold RrX.row at M
  unfold SX.v
  obtain ⟨g, B, cB, ls, window, life, got⟩ := x
  obtain ⟨qlife, qseq, qack, ⟨QA, qcap, ql⟩⟩ := q
  dsimp only [RrX.p, OX.v, SX.key] at M hl hq1 hq2 hb xw xl xg ⊢
  obtain ⟨s, hs⟩ : ∃ s : Nat × Nat × Bool × List UInt8, s = (qlife, qseq, qack, ql) := ⟨_, rfl⟩
  rw [← hs]
  have bad : ∀ {w' : World} {L2 : List Asr}, Mem w0 w' L2 → Sel L2 (Asr.row g 70 [.int .i64 (window : Int), .int .u64 (life : Int), .int .u64 (got : Int), .slice B ls.length cB] :: Asr.lst rearlyE B cB ls :: Asr.star (ls.map EX.O) :: L') → ∀ e : Int, e ≠ 0 → rhE r s = e →
      ∃ (x' : RrX) (A : Option Addr) (cap : Nat) (outs : List OX), Value.tuple #[.slice none 0 0, .agg [.int .u64 0, .int .u64 0, .bool false, .slice none 0 0].toArray, .int .i64 e] = .tuple #[.slice A outs.length cap, .agg #[.int .u64 ((rhA r s).1 : Int), .int .u64 ((rhA r s).2.1 : Int), .bool (rhA r s).2.2.1, .slice none 0 0], .int .i64 (rhE r s)] ∧ x'.g = g ∧ x'.is (rhS r s) ∧ x'.ls.length ≤ ls.length + 1 ∧
        outs.map OX.l = rhO r s ∧ (∀ o ∈ outs, ∃ e ∈ x'.ls, o = e.x) ∧ Mem w0 w' (Asr.lst oxE A cap outs :: x'.O :: L') := by
    intro w' L2 M2 hsel e he0 he
    have hne : ¬ (rhE r s = 0) := by rw [he]; exact he0
    refine ⟨⟨g, B, cB, ls, window, life, got⟩, none, 0, [], ?_, rfl, ?_, Nat.le_succ _, ?_, (fun o h => by cases h), ?_⟩
    · unfold rhA
      rw [if_neg hne, he]
      rfl
    · unfold rhS
      rw [if_neg hne]
      exact ⟨xw, xl, xg, hsame, hrng⟩
    · unfold rhO
      rw [if_neg hne]
      rfl
    · exact Mem.nilOwn (Mem.star3 (M2.sel hsel)) _ _
  refine Fn.enter Try.func34 rfl Try.ntmps34 rfl ?_
  refine W.sub [(0, _), (1, _)] (.cons rfl (.cons rfl .nil)) ?_
  refine W.seq ?_
  refine W.region ?_
  refine WL.box rfl M rfl ?_
  intro g0_0 w M
  try simp only [Value.cells] at M
  try simp only [List.toList_toArray] at M
  refine WL.assign rfl rfl ?_
  refine WL.alloc Try.zeroValue36 M rfl ?_
  intro g0_2 w M
  try simp only [Value.cells] at M
  try simp only [List.toList_toArray] at M
  refine WL.assign rfl rfl ?_
  refine WL.nil ?_
  refine WX.next ?_
  refine W.sub [(0, _), (3, _), (5, _)] (.cons rfl (.cons rfl (.cons rfl .nil))) ?_
  refine W.seq ?_
  refine W.region ?_
  refine WL.loadW Try.isAgg36 Try.sizeOf36 rfl M (by first | ((repeat (first | with_reducible exact Has.here | with_reducible refine Has.there ?_)); done) | (repeat (first | exact Has.here | refine Has.there ?_))) rfl rfl ?_
  refine WL.call Try.call44 rfl (refRight_ok ⟨qlife, qseq, qack, ⟨QA, qcap, ql⟩⟩ _) rfl ?_
  rintro _ w ⟨rfl, m⟩
  replace M := M.call0 m; clear m
  dsimp only [SX.key]
  rw [← hs]
  refine WL.assign rfl rfl ?_
  refine WL.nil ?_
  refine WX.next ?_
  refine W.sub [(0, _), (3, _), (5, _), (7, _)] (.cons rfl (.cons rfl (.cons rfl (.cons rfl .nil)))) ?_
  refine W.seq ?_
  refine W.block ?_
  refine W.seq ?_
  refine W.region ?_
  refine WL.move rfl rfl ?_
  refine WL.not rfl rfl ?_
  refine WL.assign rfl rfl ?_
  refine WL.nil ?_
  refine WX.next ?_
  refine W.sub [(0, _), (3, _), (5, _), (12, _)] (.cons rfl (.cons rfl (.cons rfl (.cons rfl .nil)))) ?_
  refine W.cond rfl (fun c0 => ?_) (fun c0 => ?_)
  · (try simp only [Bool.not_eq_true'] at c0); (try simp only [Bool.not_eq_false'] at c0); (try simp only [decide_eq_true_eq] at c0); (try simp only [decide_eq_false_iff_not] at c0)
    have c0' : isSeg s = false := by simpa using c0
    refine W.seq ?_
    refine W.region ?_
    refine WL.buildP (places := #[(0, 1), (1, 1), (2, 1), (3, 1)]) Try.underlying36 Try.zeroValue36 (fun _ => by simp [Try.sizeOf22, Try.sizeOf22, Try.sizeOf4, Try.sizeOf34]) rfl (by repeat (first | exact Puts.nil | exact SetAt.zero | apply SetAt.succ | apply Puts.cons rfl rfl)) rfl ?_
    refine WL.assign rfl rfl ?_
    refine WL.storeWA Try.sizeOf36 rfl rfl (by repeat (first | exact oneNil | refine oneCons rfl ?_)) rfl rfl M (by first | ((repeat (first | with_reducible exact Upd.here | with_reducible apply Upd.there)); done) | (repeat (first | exact Upd.here | apply Upd.there))) ?_
    intro w M
    refine WL.assign rfl rfl ?_
    refine WL.nil ?_
    refine WX.next ?_
    refine W.sub [(4, _), (5, _), (6, _)] (.cons rfl (.cons rfl (.cons rfl .nil))) ?_
    refine W.ret ?_
    refine WX.blockRet ?_
    refine WX.thenRet ?_
    refine WX.retTCT (cs := [_, _, _, _]) rfl rfl rfl rfl Try.isAgg36 (by exact Try.sizeOf36) (M.cellsH (by first | ((repeat (first | with_reducible exact Has.here | with_reducible refine Has.there ?_)); done) | (repeat (first | exact Has.here | refine Has.there ?_)))) ?_
    exact bad M (by first | ((repeat (first | with_reducible exact Sel.refl | with_reducible exact Sel.nil | with_reducible exact Del.here | with_reducible apply Del.there | with_reducible apply Sel.cons | with_reducible apply Sel.drop)); done) | (repeat (first | exact Sel.refl | exact Sel.nil | exact Del.here | apply Del.there | apply Sel.cons | apply Sel.drop))) 2 (by omega) (by unfold rhE; rw [if_pos c0'])
  · (try simp only [Bool.not_eq_true'] at c0); (try simp only [Bool.not_eq_false'] at c0); (try simp only [decide_eq_true_eq] at c0); (try simp only [decide_eq_false_iff_not] at c0)
    have g1 : ¬ (isSeg s = false) := by simpa using c0
    refine W.seq ?_
    refine W.region ?_
    refine WL.fieldR (off := 2) Try.underlying36 rfl rfl Try.sizeOf4 rfl rfl rfl ?_
    refine WL.loadR Try.isAgg4 rfl M (by first | ((repeat (first | with_reducible exact Has.here | with_reducible refine Has.there ?_)); done) | (repeat (first | exact Has.here | refine Has.there ?_))) rfl rfl ?_
    refine WL.assign rfl rfl ?_
    refine WL.nil ?_
    refine WX.next ?_
    refine W.sub [(0, _), (3, _), (5, _), (16, _)] (.cons rfl (.cons rfl (.cons rfl (.cons rfl .nil)))) ?_
    refine W.cond rfl (fun c1 => ?_) (fun c1 => ?_)
    · (try simp only [Bool.not_eq_true'] at c1); (try simp only [Bool.not_eq_false'] at c1); (try simp only [decide_eq_true_eq] at c1); (try simp only [decide_eq_false_iff_not] at c1)
      refine W.seq ?_
      refine W.region ?_
      refine WL.buildP (places := #[(0, 1), (1, 1), (2, 1), (3, 1)]) Try.underlying36 Try.zeroValue36 (fun _ => by simp [Try.sizeOf22, Try.sizeOf22, Try.sizeOf4, Try.sizeOf34]) rfl (by repeat (first | exact Puts.nil | exact SetAt.zero | apply SetAt.succ | apply Puts.cons rfl rfl)) rfl ?_
      refine WL.assign rfl rfl ?_
      refine WL.storeWA Try.sizeOf36 rfl rfl (by repeat (first | exact oneNil | refine oneCons rfl ?_)) rfl rfl M (by first | ((repeat (first | with_reducible exact Upd.here | with_reducible apply Upd.there)); done) | (repeat (first | exact Upd.here | apply Upd.there))) ?_
      intro w M
      refine WL.assign rfl rfl ?_
      refine WL.nil ?_
      refine WX.next ?_
      refine W.sub [(4, _), (5, _), (6, _)] (.cons rfl (.cons rfl (.cons rfl .nil))) ?_
      refine W.ret ?_
      refine WX.blockRet ?_
      refine WX.thenRet ?_
      refine WX.retTCT (cs := [_, _, _, _]) rfl rfl rfl rfl Try.isAgg36 (by exact Try.sizeOf36) (M.cellsH (by first | ((repeat (first | with_reducible exact Has.here | with_reducible refine Has.there ?_)); done) | (repeat (first | exact Has.here | refine Has.there ?_)))) ?_
      exact bad M (by first | ((repeat (first | with_reducible exact Sel.refl | with_reducible exact Sel.nil | with_reducible exact Del.here | with_reducible apply Del.there | with_reducible apply Sel.cons | with_reducible apply Sel.drop)); done) | (repeat (first | exact Sel.refl | exact Sel.nil | exact Del.here | apply Del.there | apply Sel.cons | apply Sel.drop))) 71 (by omega) (by unfold rhE; rw [if_neg g1, if_pos (by rw [hs]; exact c1)])
    · (try simp only [Bool.not_eq_true'] at c1); (try simp only [Bool.not_eq_false'] at c1); (try simp only [decide_eq_true_eq] at c1); (try simp only [decide_eq_false_iff_not] at c1)
      have g2 : ¬ (s.2.2.1 = true) := by rw [hs]; simpa using c1
      refine W.seq ?_
      refine W.drawM (_) (by kernel_rfl) (fun j => [1, 5].contains j) M Sel.refl ?_
      clear M; intro M
      apply DG.pure_ [0, 2, 3, 4] 4 rfl (by kernel_rfl) (by kernel_rfl)
      · intro w
        refine WL.fieldR (off := 0) Try.underlying36 rfl rfl Try.sizeOf22 rfl rfl rfl ?_
        refine WL.move rfl rfl ?_
        refine WL.nilCheck rfl rfl ?_
        refine WL.fieldR (off := 1) Try.underlying70 rfl rfl Try.sizeOf22 rfl rfl rfl ?_
        exact Chain.end_ rfl
      apply DG.take [1, 5, 6, 7] 0 rfl (by kernel_rfl) (by kernel_rfl) (M.sel (by first | ((repeat (first | with_reducible exact Sel.refl | with_reducible exact Sel.nil | with_reducible exact Del.here | with_reducible apply Del.there | with_reducible apply Sel.cons | with_reducible apply Sel.drop)); done) | (repeat (first | exact Sel.refl | exact Sel.nil | exact Del.here | apply Del.there | apply Sel.cons | apply Sel.drop))))
      · intro w M
        refine WL.loadR Try.isAgg22 rfl M (by first | ((repeat (first | with_reducible exact Has.here | with_reducible refine Has.there ?_)); done) | (repeat (first | exact Has.here | refine Has.there ?_))) rfl rfl ?_
        refine WL.loadR Try.isAgg22 rfl M (by first | ((repeat (first | with_reducible exact Has.here | with_reducible refine Has.there ?_)); done) | (repeat (first | exact Has.here | refine Has.there ?_))) rfl rfl ?_
        refine WL.lss rfl rfl rfl ?_
        refine WL.assign rfl rfl ?_
        exact Chain.end_ rfl
      refine DG.end_ (by kernel_rfl) ?_
      refine WX.next ?_
      refine W.sub [(0, _), (3, _), (5, _), (20, _)] (.cons rfl (.cons rfl (.cons rfl (.cons rfl .nil)))) ?_
      refine W.ite rfl (fun c2 => ?_) (fun c2 => ?_)
      · refine W.seq ?_
        refine W.region ?_
        refine WL.buildP (places := #[(0, 1), (1, 1), (2, 1), (3, 1)]) Try.underlying36 Try.zeroValue36 (fun _ => by simp [Try.sizeOf22, Try.sizeOf22, Try.sizeOf4, Try.sizeOf34]) rfl (by repeat (first | exact Puts.nil | exact SetAt.zero | apply SetAt.succ | apply Puts.cons rfl rfl)) rfl ?_
        refine WL.assign rfl rfl ?_
        refine WL.storeWA Try.sizeOf36 rfl rfl (by repeat (first | exact oneNil | refine oneCons rfl ?_)) rfl rfl M (by first | ((repeat (first | with_reducible exact Upd.here | with_reducible apply Upd.there)); done) | (repeat (first | exact Upd.here | apply Upd.there))) ?_
        intro w M
        refine WL.assign rfl rfl ?_
        refine WL.nil ?_
        refine WX.next ?_
        refine W.sub [(4, _), (5, _), (6, _)] (.cons rfl (.cons rfl (.cons rfl .nil))) ?_
        refine W.ret ?_
        refine WX.blockRet ?_
        refine WX.thenRet ?_
        refine WX.retTCT (cs := [_, _, _, _]) rfl rfl rfl rfl Try.isAgg36 (by exact Try.sizeOf36) (M.cellsH (by first | ((repeat (first | with_reducible exact Has.here | with_reducible refine Has.there ?_)); done) | (repeat (first | exact Has.here | refine Has.there ?_)))) ?_
        exact bad M (by first | ((repeat (first | with_reducible exact Sel.refl | with_reducible exact Sel.nil | with_reducible exact Del.here | with_reducible apply Del.there | with_reducible apply Sel.cons | with_reducible apply Sel.drop)); done) | (repeat (first | exact Sel.refl | exact Sel.nil | exact Del.here | apply Del.there | apply Sel.cons | apply Sel.drop))) 70 (by omega) (by unfold rhE; rw [if_neg g1, if_neg g2, if_pos (by rw [hs]; dsimp only; omega)])
      · have he : rhE r s = 0 := by unfold rhE; rw [if_neg g1, if_neg g2, if_neg (by rw [hs]; dsimp only; omega)]
        have hseg : ql.length ≤ 1000 := by
          have := g1
          rw [hs] at this
          unfold isSeg at this
          simp at this
          split at this
          · simp at this; simp [this]
          · simp at this; omega
        refine W.skip ?_
        refine WX.blockNormal ?_
        refine WX.next ?_
        refine W.joint (fun (z : (List EX × Nat × Nat) × (Option Addr × Nat)) => [(0, .pointer (some ⟨g, 0, none⟩)), (3, .pointer (some ⟨g0_0, 0, none⟩)), (5, .pointer (some ⟨g0_2, 0, none⟩))]) (fun j w => Mem w0 w ((fun z => Asr.row g0_0 36 [.int .u64 (qlife : Int), .int .u64 (qseq : Int), .bool qack, .slice QA ql.length qcap] :: Asr.row g0_2 36 [.int .u64 0, .int .u64 0, .bool false, .slice none 0 0] :: Asr.row g 70 [.int .i64 (window : Int), .int .u64 (z.1.2.1 : Int), .int .u64 (z.1.2.2 : Int), .slice z.2.1 z.1.1.length z.2.2] :: Asr.lst rearlyE z.2.1 z.2.2 z.1.1 :: Asr.star (z.1.1.map EX.O) :: L') j) ∧ (fun z => (rh1 r s).life = z.1.2.1 ∧ (rh1 r s).got = z.1.2.2 ∧ (∀ k, z.1.2.2 < k → mget (z.1.1.map EX.key) k = mget (rh1 r s).m k) ∧ z.1.1.length ≤ ls.length ∧ (∀ p ∈ (rh1 r s).m, z.1.2.2 < p.1 ∧ p.1 ≤ z.1.2.2 + window) ∧ ((rh1 r s).m.map (·.1)).Nodup ∧ z.1.2.2 + (rh1 r s).m.length < 1000000000) j) ?_ ?_
        · refine W.seq ?_
          refine W.drawM (_) (by kernel_rfl) (fun j => [1, 5].contains j) M Sel.refl ?_
          clear M; intro M
          apply DG.pure_ [0, 2, 3, 4] 3 rfl (by kernel_rfl) (by kernel_rfl)
          · intro w
            refine WL.fieldR (off := 0) Try.underlying36 rfl rfl Try.sizeOf22 rfl rfl rfl ?_
            refine WL.move rfl rfl ?_
            refine WL.nilCheck rfl rfl ?_
            refine WL.fieldR (off := 1) Try.underlying70 rfl rfl Try.sizeOf22 rfl rfl rfl ?_
            exact Chain.end_ rfl
          apply DG.take [1, 5, 6] 0 rfl (by kernel_rfl) (by kernel_rfl) (M.sel (by first | ((repeat (first | with_reducible exact Sel.refl | with_reducible exact Sel.nil | with_reducible exact Del.here | with_reducible apply Del.there | with_reducible apply Sel.cons | with_reducible apply Sel.drop)); done) | (repeat (first | exact Sel.refl | exact Sel.nil | exact Del.here | apply Del.there | apply Sel.cons | apply Sel.drop))))
          · intro w M
            refine WL.loadR Try.isAgg22 rfl M (by first | ((repeat (first | with_reducible exact Has.here | with_reducible refine Has.there ?_)); done) | (repeat (first | exact Has.here | refine Has.there ?_))) rfl rfl ?_
            refine WL.loadR Try.isAgg22 rfl M (by first | ((repeat (first | with_reducible exact Has.here | with_reducible refine Has.there ?_)); done) | (repeat (first | exact Has.here | refine Has.there ?_))) rfl rfl ?_
            refine WL.gtr rfl rfl rfl ?_
            exact Chain.end_ rfl
          refine DG.end_ (by kernel_rfl) ?_
          refine WX.next ?_
          refine W.sub [(0, _), (3, _), (5, _), (35, _)] (.cons rfl (.cons rfl (.cons rfl (.cons rfl .nil)))) ?_
          refine W.ite rfl (fun c3 => ?_) (fun c3 => ?_)
          · refine W.seq ?_
            refine W.region ?_
            refine WL.move rfl rfl ?_
            refine WL.fieldR (off := 0) Try.underlying36 rfl rfl Try.sizeOf22 rfl rfl rfl ?_
            refine WL.loadR Try.isAgg22 rfl M (by first | ((repeat (first | with_reducible exact Has.here | with_reducible refine Has.there ?_)); done) | (repeat (first | exact Has.here | refine Has.there ?_))) rfl rfl ?_
            refine WL.nilCheck rfl rfl ?_
            refine WL.fieldR (off := 1) Try.underlying70 rfl rfl Try.sizeOf22 rfl rfl rfl ?_
            refine WL.storeR Try.sizeOf22 rfl rfl rfl M (by first | ((repeat (first | with_reducible exact Has.here | with_reducible refine Has.there ?_)); done) | (repeat (first | exact Has.here | refine Has.there ?_))) (by repeat (first | exact SetAt.zero | apply SetAt.succ)) (by first | ((repeat (first | with_reducible exact Upd.here | with_reducible apply Upd.there)); done) | (repeat (first | exact Upd.here | apply Upd.there))) ?_
            intro w M
            refine WL.nil ?_
            refine WX.next ?_
            refine W.sub [(0, _), (3, _), (5, _)] (.cons rfl (.cons rfl (.cons rfl .nil))) ?_
            refine W.seq ?_
            refine W.region ?_
            refine WL.move rfl rfl ?_
            refine WL.nilCheck rfl rfl ?_
            refine WL.fieldR (off := 2) Try.underlying70 rfl rfl Try.sizeOf22 rfl rfl rfl ?_
            refine WL.storeR Try.sizeOf22 rfl rfl rfl M (by first | ((repeat (first | with_reducible exact Has.here | with_reducible refine Has.there ?_)); done) | (repeat (first | exact Has.here | refine Has.there ?_))) (by repeat (first | exact SetAt.zero | apply SetAt.succ)) (by first | ((repeat (first | with_reducible exact Upd.here | with_reducible apply Upd.there)); done) | (repeat (first | exact Upd.here | apply Upd.there))) ?_
            intro w M
            refine WL.nil ?_
            refine WX.next ?_
            refine W.sub [(0, _), (3, _), (5, _)] (.cons rfl (.cons rfl (.cons rfl .nil))) ?_
            refine W.region ?_
            refine WL.move rfl rfl ?_
            refine WL.nilCheck rfl rfl ?_
            refine WL.fieldR (off := 3) Try.underlying70 rfl rfl Try.sizeOf68 rfl rfl rfl ?_
            refine WL.storeR Try.sizeOf68 rfl rfl rfl M (by first | ((repeat (first | with_reducible exact Has.here | with_reducible refine Has.there ?_)); done) | (repeat (first | exact Has.here | refine Has.there ?_))) (by repeat (first | exact SetAt.zero | apply SetAt.succ)) (by first | ((repeat (first | with_reducible exact Upd.here | with_reducible apply Upd.there)); done) | (repeat (first | exact Upd.here | apply Upd.there))) ?_
            intro w M
            refine WL.nil ?_
            replace M := Mem.nilOwn M.starNil 108 2
            have hr1 : rh1 r s = { r with life := qlife, got := 0, m := [] } := by rw [rh1, if_pos (by rw [hs]; dsimp only; omega), hs]
            refine WX.join ((([], qlife, 0), (none, 0))) (by (repeat' (first | exact envSub.nil | refine envSub.cons ?_ ?_)) <;> first | rfl | (refine congrArg some ?_; refine congrArg (Value.int _) ?_; first | omega | (dsimp only; omega)) | (simp; done) | (refine congrArg some ?_; dsimp only; congr 1; omega) | (simp; omega)) ⟨M.sel (by first | ((repeat (first | with_reducible exact Sel.refl | with_reducible exact Sel.nil | with_reducible exact Del.here | with_reducible apply Del.there | with_reducible apply Sel.cons | with_reducible apply Sel.drop)); done) | (repeat (first | exact Sel.refl | exact Sel.nil | exact Del.here | apply Del.there | apply Sel.cons | apply Sel.drop))), ⟨by rw [hr1], by rw [hr1], (fun k _ => by rw [hr1]; rfl), by simp, (fun p h => by rw [hr1] at h; cases h), by rw [hr1]; simp, by rw [hr1]; simp⟩⟩
          · refine W.skip ?_
            have hr1 : rh1 r s = r := by rw [rh1, if_neg (by rw [hs]; dsimp only; omega)]
            have a1 : ∀ k, got < k → mget (ls.map EX.key) k = mget (rh1 r s).m k := fun k hk => by rw [hr1]; exact hsame k (by omega)
            have a2 : ∀ p ∈ (rh1 r s).m, got < p.1 ∧ p.1 ≤ got + window := fun p h => by rw [hr1] at h; have := hrng p h; omega
            have a3 : got + (rh1 r s).m.length < 1000000000 := by rw [hr1]; omega
            refine WX.join (((ls, life, got), (B, cB))) (by (repeat' (first | exact envSub.nil | refine envSub.cons ?_ ?_)) <;> first | rfl | (refine congrArg some ?_; refine congrArg (Value.int _) ?_; first | omega | (dsimp only; omega)) | (simp; done) | (refine congrArg some ?_; dsimp only; congr 1; omega) | (simp; omega)) ⟨M.sel (by first | ((repeat (first | with_reducible exact Sel.refl | with_reducible exact Sel.nil | with_reducible exact Del.here | with_reducible apply Del.there | with_reducible apply Sel.cons | with_reducible apply Sel.drop)); done) | (repeat (first | exact Sel.refl | exact Sel.nil | exact Del.here | apply Del.there | apply Sel.cons | apply Sel.drop))), ⟨by rw [hr1, xl], by rw [hr1, xg], a1, Nat.le_refl _, a2, by rw [hr1]; exact hnd, a3⟩⟩
        clear M; rintro (⟨⟨ls1, life1, got1⟩, B1, cB1⟩) w ⟨M, ⟨hlf1, hgt1, hsm1, hle1, hrg1, hn1, hg1⟩⟩; dsimp only at M hlf1 hgt1 hsm1 hle1 hrg1 hn1 hg1 ⊢
        refine W.sub [(0, _), (3, _), (5, _)] (.cons rfl (.cons rfl (.cons rfl .nil))) ?_
        have hs1 : s.2.1 = qseq := by rw [hs]
        have hs2 : s.2.2.2 = ql := by rw [hs]
        have hw1 : (rh1 r s).window = window := by unfold rh1; split <;> exact xw.symm
        have hm2 : (∀ p ∈ rh2 (rh1 r s) s, got1 < p.1 ∧ p.1 ≤ got1 + window) ∧ ((rh2 (rh1 r s) s).map (·.1)).Nodup ∧ (rh2 (rh1 r s) s).length ≤ (rh1 r s).m.length + 1 := by
          unfold rh2
          by_cases h : mget (rh1 r s).m s.2.1 = none ∧ (rh1 r s).got < s.2.1 ∧ s.2.1 - (rh1 r s).got ≤ (rh1 r s).window
          · rw [if_pos h]
            have h2 := h.2
            rw [hgt1, hw1] at h2
            refine ⟨?_, mput_nodup hn1 _ _, by rw [mput_new h.1]; simp⟩
            intro p hp
            rw [mput_new h.1] at hp
            rcases List.mem_append.1 hp with hp | hp
            · exact hrg1 p hp
            · rw [List.mem_singleton] at hp
              subst hp
              dsimp only
              omega
          · rw [if_neg h]
            exact ⟨hrg1, hn1, Nat.le_succ _⟩
        refine W.seq ?_
        refine W.region ?_
        refine WL.move rfl rfl ?_
        refine WL.fieldR (off := 1) Try.underlying36 rfl rfl Try.sizeOf22 rfl rfl rfl ?_
        refine WL.loadR Try.isAgg22 rfl M (by first | ((repeat (first | with_reducible exact Has.here | with_reducible refine Has.there ?_)); done) | (repeat (first | exact Has.here | refine Has.there ?_))) rfl rfl ?_
        refine WL.call Try.call46 rfl (has_ok g B1 cB1 ls1 window life1 got1 qseq _ _ _ (by omega) (M.sel (K := Asr.row g 70 [.int .i64 (window : Int), .int .u64 (life1 : Int), .int .u64 (got1 : Int), .slice B1 ls1.length cB1] :: Asr.lst rearlyE B1 cB1 ls1 :: Asr.row g0_0 36 [.int .u64 (qlife : Int), .int .u64 (qseq : Int), .bool qack, .slice QA ql.length qcap] :: Asr.row g0_2 36 [.int .u64 0, .int .u64 0, .bool false, .slice none 0 0] :: Asr.star (ls1.map EX.O) :: L') (by first | ((repeat (first | with_reducible exact Sel.refl | with_reducible exact Sel.nil | with_reducible exact Del.here | with_reducible apply Del.there | with_reducible apply Sel.cons | with_reducible apply Sel.drop)); done) | (repeat (first | exact Sel.refl | exact Sel.nil | exact Del.here | apply Del.there | apply Sel.cons | apply Sel.drop))))) rfl ?_
        rintro _ w ⟨n1, rfl, hfd1, M⟩
        refine WL.assign rfl rfl ?_
        refine WL.nil ?_
        refine WX.next ?_
        refine W.sub [(0, _), (3, _), (5, _), (8, _)] (.cons rfl (.cons rfl (.cons rfl (.cons rfl .nil)))) ?_
        refine W.joint (fun (z : List EX × (Option Addr × Nat)) => [(0, .pointer (some ⟨g, 0, none⟩)), (5, .pointer (some ⟨g0_2, 0, none⟩))]) (fun j w => Mem w0 w ((fun z => Asr.row g0_2 36 [.int .u64 0, .int .u64 0, .bool false, .slice none 0 0] :: Asr.row g 70 [.int .i64 (window : Int), .int .u64 (life1 : Int), .int .u64 (got1 : Int), .slice z.2.1 z.1.length z.2.2] :: Asr.lst rearlyE z.2.1 z.2.2 z.1 :: Asr.star (z.1.map EX.O) :: L') j) ∧ (fun z => (∀ k, got1 < k → mget (z.1.map EX.key) k = mget (rh2 (rh1 r s) s) k) ∧ z.1.length ≤ ls.length + 1) j) ?_ ?_
        · refine W.seq ?_
          refine W.drawM (_) (by kernel_rfl) (fun j => [4, 8, 12, 13, 14, 15, 16, 17, 18, 19, 20, 21, 22, 23].contains j) M Sel.refl ?_
          clear M; intro M
          apply DG.pure_ [0, 1] 24 rfl (by kernel_rfl) (by kernel_rfl)
          · intro w
            refine WL.move rfl rfl ?_
            refine WL.lss rfl rfl rfl ?_
            exact Chain.end_ rfl
          refine DG.knowP (t := 52) rfl (fun c4 => ?_) (fun c4 => ?_)
          · have hnone : mget (ls1.map EX.key) qseq = none := by
              rcases hfd1 with ⟨_, h⟩ | ⟨j, h, _⟩
              · exact h
              · omega
            apply DG.pure_ [2, 3, 5, 6, 7] 19 rfl (by kernel_rfl) (by kernel_rfl)
            · intro w
              refine WL.move rfl rfl ?_
              refine WL.on rfl rfl ?_
              refine WL.fieldR (off := 1) Try.underlying36 rfl rfl Try.sizeOf22 rfl rfl rfl ?_
              refine WL.on rfl rfl ?_
              refine WL.move rfl rfl ?_
              refine WL.on rfl rfl ?_
              refine WL.nilCheck rfl rfl ?_
              refine WL.on rfl rfl ?_
              refine WL.fieldR (off := 2) Try.underlying70 rfl rfl Try.sizeOf22 rfl rfl rfl ?_
              exact Chain.end_ rfl
            apply DG.take [4, 8, 9, 10] 15 rfl (by kernel_rfl) (by kernel_rfl) (M.sel (by first | ((repeat (first | with_reducible exact Sel.refl | with_reducible exact Sel.nil | with_reducible exact Del.here | with_reducible apply Del.there | with_reducible apply Sel.cons | with_reducible apply Sel.drop)); done) | (repeat (first | exact Sel.refl | exact Sel.nil | exact Del.here | apply Del.there | apply Sel.cons | apply Sel.drop))))
            · intro w M
              refine WL.on rfl rfl ?_
              refine WL.loadR Try.isAgg22 rfl M (by first | ((repeat (first | with_reducible exact Has.here | with_reducible refine Has.there ?_)); done) | (repeat (first | exact Has.here | refine Has.there ?_))) rfl rfl ?_
              refine WL.on rfl rfl ?_
              refine WL.loadR Try.isAgg22 rfl M (by first | ((repeat (first | with_reducible exact Has.here | with_reducible refine Has.there ?_)); done) | (repeat (first | exact Has.here | refine Has.there ?_))) rfl rfl ?_
              refine WL.on rfl rfl ?_
              refine WL.gtr rfl rfl rfl ?_
              refine WL.pickT rfl rfl rfl ?_
              exact Chain.end_ rfl
            refine DG.knowP (t := 61) rfl (fun c5 => ?_) (fun c5 => ?_)
            · apply DG.pure_ [11] 14 rfl (by kernel_rfl) (by kernel_rfl)
              · intro w
                refine WL.move rfl rfl ?_
                exact Chain.end_ rfl
              apply DG.take [12, 13, 14, 15, 16, 17, 18, 19, 20, 21, 22, 23, 24, 25] 0 rfl (by kernel_rfl) (by kernel_rfl) (M.sel (by first | ((repeat (first | with_reducible exact Sel.refl | with_reducible exact Sel.nil | with_reducible exact Del.here | with_reducible apply Del.there | with_reducible apply Sel.cons | with_reducible apply Sel.drop)); done) | (repeat (first | exact Sel.refl | exact Sel.nil | exact Del.here | apply Del.there | apply Sel.cons | apply Sel.drop))))
              · intro w M
                refine WL.on rfl rfl ?_
                refine WL.fieldR (off := 1) Try.underlying36 rfl rfl Try.sizeOf22 rfl rfl rfl ?_
                refine WL.on rfl rfl ?_
                refine WL.loadR Try.isAgg22 rfl M (by first | ((repeat (first | with_reducible exact Has.here | with_reducible refine Has.there ?_)); done) | (repeat (first | exact Has.here | refine Has.there ?_))) rfl rfl ?_
                refine WL.on rfl rfl ?_
                refine WL.move rfl rfl ?_
                refine WL.on rfl rfl ?_
                refine WL.nilCheck rfl rfl ?_
                refine WL.on rfl rfl ?_
                refine WL.fieldR (off := 2) Try.underlying70 rfl rfl Try.sizeOf22 rfl rfl rfl ?_
                refine WL.on rfl rfl ?_
                refine WL.loadR Try.isAgg22 rfl M (by first | ((repeat (first | with_reducible exact Has.here | with_reducible refine Has.there ?_)); done) | (repeat (first | exact Has.here | refine Has.there ?_))) rfl rfl ?_
                refine WL.on rfl rfl ?_
                refine WL.sub' rfl rfl (show IntKind.u64.wrap ((qseq : Int) - (got1 : Int)) = ((qseq - got1 : Nat) : Int) by rw [wU64 (by omega)]; omega) rfl ?_
                refine WL.on rfl rfl ?_
                refine WL.move rfl rfl ?_
                refine WL.on rfl rfl ?_
                refine WL.nilCheck rfl rfl ?_
                refine WL.on rfl rfl ?_
                refine WL.fieldR (off := 0) Try.underlying70 rfl rfl Try.sizeOf3 rfl rfl rfl ?_
                refine WL.on rfl rfl ?_
                refine WL.loadR Try.isAgg3 rfl M (by first | ((repeat (first | with_reducible exact Has.here | with_reducible refine Has.there ?_)); done) | (repeat (first | exact Has.here | refine Has.there ?_))) rfl rfl ?_
                refine WL.on rfl rfl ?_
                refine WL.conv Try.underlying3 Try.underlying22 rfl (wU64 (by omega)) rfl ?_
                refine WL.on rfl rfl ?_
                refine WL.leq rfl rfl rfl ?_
                refine WL.pickT rfl rfl rfl ?_
                exact Chain.end_ rfl
              refine DG.end_ (by kernel_rfl) ?_
              refine WX.next ?_
              refine W.sub [(0, _), (3, _), (5, _), (76, _)] (.cons rfl (.cons rfl (.cons rfl (.cons rfl .nil)))) ?_
              refine W.ite rfl (fun c6 => ?_) (fun c6 => ?_)
              · refine W.drawM (_) (by kernel_rfl) (fun j => [4, 6, 8, 9, 10, 11].contains j) M Sel.refl ?_
                clear M; intro M
                apply DG.pure_ [0, 1, 2, 3, 5, 7] 10 rfl (by kernel_rfl) (by kernel_rfl)
                · intro w
                  refine WL.move rfl rfl ?_
                  refine WL.move rfl rfl ?_
                  refine WL.nilCheck rfl rfl ?_
                  refine WL.fieldR (off := 3) Try.underlying70 rfl rfl Try.sizeOf68 rfl rfl rfl ?_
                  refine WL.fieldR (off := 1) Try.underlying36 rfl rfl Try.sizeOf22 rfl rfl rfl ?_
                  refine WL.fieldR (off := 3) Try.underlying36 rfl rfl Try.sizeOf34 rfl rfl rfl ?_
                  exact Chain.end_ rfl
                apply DG.take [4, 6, 8] 7 rfl (by kernel_rfl) (by kernel_rfl) (M.sel (by first | ((repeat (first | with_reducible exact Sel.refl | with_reducible exact Sel.nil | with_reducible exact Del.here | with_reducible apply Del.there | with_reducible apply Sel.cons | with_reducible apply Sel.drop)); done) | (repeat (first | exact Sel.refl | exact Sel.nil | exact Del.here | apply Del.there | apply Sel.cons | apply Sel.drop))))
                · intro w M
                  refine WL.loadR Try.isAgg68 rfl M (by first | ((repeat (first | with_reducible exact Has.here | with_reducible refine Has.there ?_)); done) | (repeat (first | exact Has.here | refine Has.there ?_))) rfl rfl ?_
                  refine WL.loadR Try.isAgg22 rfl M (by first | ((repeat (first | with_reducible exact Has.here | with_reducible refine Has.there ?_)); done) | (repeat (first | exact Has.here | refine Has.there ?_))) rfl rfl ?_
                  refine WL.loadR Try.isAgg34 rfl M (by first | ((repeat (first | with_reducible exact Has.here | with_reducible refine Has.there ?_)); done) | (repeat (first | exact Has.here | refine Has.there ?_))) rfl rfl ?_
                  exact Chain.end_ rfl
                refine DG.step 9 6 rfl (by kernel_rfl) ?_
                refine WL.call Try.call37 rfl (Copy_ok (by first | first | with_reducible assumption | with_reducible exact RdB.mem (by with_reducible assumption) M | exact M.rdB (by first | ((repeat (first | with_reducible exact Has.here | with_reducible refine Has.there ?_)); done) | (repeat (first | exact Has.here | refine Has.there ?_))) | exact RdH.at (by assumption) (M.sel (by first | ((repeat (first | with_reducible exact Sel.refl | with_reducible exact Sel.nil | with_reducible exact Del.here | with_reducible apply Del.there | with_reducible apply Sel.cons | with_reducible apply Sel.drop)); done) | (repeat (first | exact Sel.refl | exact Sel.nil | exact Del.here | apply Del.there | apply Sel.cons | apply Sel.drop)))) | exact M.rdLit' (by first | ((repeat (first | with_reducible exact Has.here | with_reducible refine Has.there ?_)); done) | (repeat (first | exact Has.here | refine Has.there ?_))) | exact M.rdLent (by first | ((repeat (first | with_reducible exact Has.here | with_reducible refine Has.there ?_)); done) | (repeat (first | exact Has.here | refine Has.there ?_))) | exact RdB.nil _ _ | exact RdB.sub (by first | with_reducible assumption | with_reducible exact RdB.mem (by with_reducible assumption) M | exact M.rdB (by first | ((repeat (first | with_reducible exact Has.here | with_reducible refine Has.there ?_)); done) | (repeat (first | exact Has.here | refine Has.there ?_))) | exact RdH.at (by assumption) (M.sel (by first | ((repeat (first | with_reducible exact Sel.refl | with_reducible exact Sel.nil | with_reducible exact Del.here | with_reducible apply Del.there | with_reducible apply Sel.cons | with_reducible apply Sel.drop)); done) | (repeat (first | exact Sel.refl | exact Sel.nil | exact Del.here | apply Del.there | apply Sel.cons | apply Sel.drop)))) | exact M.rdLit' (by first | ((repeat (first | with_reducible exact Has.here | with_reducible refine Has.there ?_)); done) | (repeat (first | exact Has.here | refine Has.there ?_))) | exact M.rdLent (by first | ((repeat (first | with_reducible exact Has.here | with_reducible refine Has.there ?_)); done) | (repeat (first | exact Has.here | refine Has.there ?_))) | exact RdB.nil _ _) (by omega) (by omega) | exact RdB.pre' (by first | with_reducible assumption | with_reducible exact RdB.mem (by with_reducible assumption) M | exact M.rdB (by first | ((repeat (first | with_reducible exact Has.here | with_reducible refine Has.there ?_)); done) | (repeat (first | exact Has.here | refine Has.there ?_))) | exact RdH.at (by assumption) (M.sel (by first | ((repeat (first | with_reducible exact Sel.refl | with_reducible exact Sel.nil | with_reducible exact Del.here | with_reducible apply Del.there | with_reducible apply Sel.cons | with_reducible apply Sel.drop)); done) | (repeat (first | exact Sel.refl | exact Sel.nil | exact Del.here | apply Del.there | apply Sel.cons | apply Sel.drop)))) | exact M.rdLit' (by first | ((repeat (first | with_reducible exact Has.here | with_reducible refine Has.there ?_)); done) | (repeat (first | exact Has.here | refine Has.there ?_))) | exact M.rdLent (by first | ((repeat (first | with_reducible exact Has.here | with_reducible refine Has.there ?_)); done) | (repeat (first | exact Has.here | refine Has.there ?_))) | exact RdB.nil _ _) (by omega) | exact RdB.suf (by first | with_reducible assumption | with_reducible exact RdB.mem (by with_reducible assumption) M | exact M.rdB (by first | ((repeat (first | with_reducible exact Has.here | with_reducible refine Has.there ?_)); done) | (repeat (first | exact Has.here | refine Has.there ?_))) | exact RdH.at (by assumption) (M.sel (by first | ((repeat (first | with_reducible exact Sel.refl | with_reducible exact Sel.nil | with_reducible exact Del.here | with_reducible apply Del.there | with_reducible apply Sel.cons | with_reducible apply Sel.drop)); done) | (repeat (first | exact Sel.refl | exact Sel.nil | exact Del.here | apply Del.there | apply Sel.cons | apply Sel.drop)))) | exact M.rdLit' (by first | ((repeat (first | with_reducible exact Has.here | with_reducible refine Has.there ?_)); done) | (repeat (first | exact Has.here | refine Has.there ?_))) | exact M.rdLent (by first | ((repeat (first | with_reducible exact Has.here | with_reducible refine Has.there ?_)); done) | (repeat (first | exact Has.here | refine Has.there ?_))) | exact RdB.nil _ _) (by omega)) (by omega)) rfl ?_
                rintro _ w ⟨A14_9, cap14_9, rfl, m⟩
                replace M := M.call1 m; clear m
                refine DG.go (G := fun j => [4, 6, 8, 9, 10, 11].contains j) (i := 9) (f' := 6) (done := [0, 1, 2, 3, 5, 7, 4, 6, 8]) (fun _ => M.sel (by first | ((repeat (first | with_reducible exact Sel.refl | with_reducible exact Sel.nil | with_reducible exact Del.here | with_reducible apply Del.there | with_reducible apply Sel.cons | with_reducible apply Sel.drop)); done) | (repeat (first | exact Sel.refl | exact Sel.nil | exact Del.here | apply Del.there | apply Sel.cons | apply Sel.drop)))) ?_
                apply DG.take [10] 5 rfl (by kernel_rfl) (by kernel_rfl) (M.sel (by first | ((repeat (first | with_reducible exact Sel.refl | with_reducible exact Sel.nil | with_reducible exact Del.here | with_reducible apply Del.there | with_reducible apply Sel.cons | with_reducible apply Sel.drop)); done) | (repeat (first | exact Sel.refl | exact Sel.nil | exact Del.here | apply Del.there | apply Sel.cons | apply Sel.drop))))
                · intro w M
                  refine WL.buildP (places := #[(0, 1), (1, 1)]) Try.underlying108 Try.zeroValue108 (fun _ => by simp [Try.sizeOf22, Try.sizeOf34]) rfl (by repeat (first | exact Puts.nil | exact SetAt.zero | apply SetAt.succ | apply Puts.cons rfl rfl)) rfl ?_
                  exact Chain.end_ rfl
                refine DG.step 11 4 rfl (by kernel_rfl) ?_
                refine WL.buildL (E := rearlyE) (l := [⟨qseq, ⟨A14_9, cap14_9, ql⟩⟩]) Try.elem108 M rfl rfl rfl rfl rfl rfl ?_
                intro g14_11 w M
                refine DG.go (G := fun j => [4, 6, 8, 9, 10, 11].contains j) (i := 11) (f' := 4) (done := [0, 1, 2, 3, 5, 7, 4, 6, 8, 9, 10]) (fun _ => M.sel (by first | ((repeat (first | with_reducible exact Sel.refl | with_reducible exact Sel.nil | with_reducible exact Del.here | with_reducible apply Del.there | with_reducible apply Sel.cons | with_reducible apply Sel.drop)); done) | (repeat (first | exact Sel.refl | exact Sel.nil | exact Del.here | apply Del.there | apply Sel.cons | apply Sel.drop)))) ?_
                refine DG.step 12 3 rfl (by kernel_rfl) ?_
                refine WL.appendL (E := rearlyE) Try.elem108 rfl rfl M (by first | ((repeat (first | with_reducible exact Del.here | with_reducible apply Del.there)); done) | (repeat (first | exact Del.here | apply Del.there))) (by first | with_reducible assumption | with_reducible exact RdL.mem (by with_reducible assumption) M | exact M.rdL (by first | ((repeat (first | with_reducible exact Has.here | with_reducible refine Has.there ?_)); done) | (repeat (first | exact Has.here | refine Has.there ?_))) | exact RdLH.at (by assumption) (M.sel (by first | ((repeat (first | with_reducible exact Sel.refl | with_reducible exact Sel.nil | with_reducible exact Del.here | with_reducible apply Del.there | with_reducible apply Sel.cons | with_reducible apply Sel.drop)); done) | (repeat (first | exact Sel.refl | exact Sel.nil | exact Del.here | apply Del.there | apply Sel.cons | apply Sel.drop)))) | exact RdL.nil _ _ _) rfl rfl (by simp only [List.length_cons, List.length_nil]; omega) (by simp only [maxLen, List.length_cons, List.length_nil]; omega) rfl ?_
                intro A14_12 cap14_12 w M
                refine DG.go (G := fun j => [4, 6, 8, 9, 10, 11].contains j) (i := 12) (f' := 3) (done := [0, 1, 2, 3, 5, 7, 4, 6, 8, 9, 10, 11]) (fun h => by cases h) ?_
                apply DG.pure_ [13, 14] 1 rfl (by kernel_rfl) (by kernel_rfl)
                · intro w
                  refine WL.nilCheck rfl rfl ?_
                  refine WL.fieldR (off := 3) Try.underlying70 rfl rfl Try.sizeOf68 rfl rfl rfl ?_
                  exact Chain.end_ rfl
                refine DG.step 15 0 rfl (by kernel_rfl) ?_
                refine WL.storeR Try.sizeOf68 rfl rfl rfl M (by first | ((repeat (first | with_reducible exact Has.here | with_reducible refine Has.there ?_)); done) | (repeat (first | exact Has.here | refine Has.there ?_))) (by repeat (first | exact SetAt.zero | apply SetAt.succ)) (by first | ((repeat (first | with_reducible exact Upd.here | with_reducible apply Upd.there)); done) | (repeat (first | exact Upd.here | apply Upd.there))) ?_
                intro w M
                refine DG.go (G := fun j => [4, 6, 8, 9, 10, 11].contains j) (i := 15) (f' := 0) (done := [0, 1, 2, 3, 5, 7, 4, 6, 8, 9, 10, 11, 12, 13, 14]) (fun h => by cases h) ?_
                refine DG.end_ (by kernel_rfl) ?_
                skip
                have q1 : ∀ k, got1 < k → mget ((ls1 ++ [(⟨qseq, ⟨A14_9, cap14_9, ql⟩⟩ : EX)]).map EX.key) k = mget (rh2 (rh1 r s) s) k := by
                  intro k hk
                  have h1 : (ls1 ++ [(⟨qseq, ⟨A14_9, cap14_9, ql⟩⟩ : EX)]).map EX.key = mput (ls1.map EX.key) qseq ql := by rw [mput_new hnone, List.map_append]; rfl
                  have h2 : mget (rh1 r s).m s.2.1 = none := by rw [hs1]; exact (hsm1 qseq (by omega)).symm.trans hnone
                  unfold rh2
                  rw [if_pos ⟨h2, by rw [hgt1, hs1]; omega, by rw [hgt1, hw1, hs1]; omega⟩, h1, hs1, hs2, mget_mput, mget_mput, hsm1 k hk]
                replace M : Mem w0 w (Asr.star ((ls1 ++ [(⟨qseq, ⟨A14_9, cap14_9, ql⟩⟩ : EX)]).map EX.O) :: Asr.row g0_2 36 [.int .u64 0, .int .u64 0, .bool false, .slice none 0 0] :: Asr.row g 70 [.int .i64 (window : Int), .int .u64 (life1 : Int), .int .u64 (got1 : Int), .slice A14_12 (ls1 ++ [(⟨qseq, ⟨A14_9, cap14_9, ql⟩⟩ : EX)]).length cap14_12] :: Asr.lst rearlyE A14_12 cap14_12 (ls1 ++ [(⟨qseq, ⟨A14_9, cap14_9, ql⟩⟩ : EX)]) :: L') := by
                  rw [List.map_append]
                  exact Mem.starSnoc (A := EX.O ⟨qseq, ⟨A14_9, cap14_9, ql⟩⟩) (M.sel (K := Asr.own 5 1 A14_9 ql.length cap14_9 (bs ql) :: Asr.star (ls1.map EX.O) :: Asr.row g0_2 36 [.int .u64 0, .int .u64 0, .bool false, .slice none 0 0] :: Asr.row g 70 [.int .i64 (window : Int), .int .u64 (life1 : Int), .int .u64 (got1 : Int), .slice A14_12 (ls1 ++ [(⟨qseq, ⟨A14_9, cap14_9, ql⟩⟩ : EX)]).length cap14_12] :: Asr.lst rearlyE A14_12 cap14_12 (ls1 ++ [(⟨qseq, ⟨A14_9, cap14_9, ql⟩⟩ : EX)]) :: L') (by first | ((repeat (first | with_reducible exact Sel.refl | with_reducible exact Sel.nil | with_reducible exact Del.here | with_reducible apply Del.there | with_reducible apply Sel.cons | with_reducible apply Sel.drop)); done) | (repeat (first | exact Sel.refl | exact Sel.nil | exact Del.here | apply Del.there | apply Sel.cons | apply Sel.drop))))
                refine WX.join ((ls1 ++ [⟨qseq, ⟨A14_9, cap14_9, ql⟩⟩], (A14_12, cap14_12))) (by (repeat' (first | exact envSub.nil | refine envSub.cons ?_ ?_)) <;> first | rfl | (refine congrArg some ?_; refine congrArg (Value.int _) ?_; first | omega | (dsimp only; omega)) | (simp; done) | (refine congrArg some ?_; dsimp only; congr 1; omega) | (simp; omega)) ⟨M.sel (by first | ((repeat (first | with_reducible exact Sel.refl | with_reducible exact Sel.nil | with_reducible exact Del.here | with_reducible apply Del.there | with_reducible apply Sel.cons | with_reducible apply Sel.drop)); done) | (repeat (first | exact Sel.refl | exact Sel.nil | exact Del.here | apply Del.there | apply Sel.cons | apply Sel.drop))), ⟨q1, by simp; omega⟩⟩
              · refine W.skip ?_
                have q1 : rh2 (rh1 r s) s = (rh1 r s).m := by unfold rh2; rw [if_neg (fun h => by have h2 := h.2.2; rw [hgt1, hw1, hs1] at h2; omega)]
                refine WX.join ((ls1, (B1, cB1))) (by (repeat' (first | exact envSub.nil | refine envSub.cons ?_ ?_)) <;> first | rfl | (refine congrArg some ?_; refine congrArg (Value.int _) ?_; first | omega | (dsimp only; omega)) | (simp; done) | (refine congrArg some ?_; dsimp only; congr 1; omega) | (simp; omega)) ⟨M.sel (by first | ((repeat (first | with_reducible exact Sel.refl | with_reducible exact Sel.nil | with_reducible exact Del.here | with_reducible apply Del.there | with_reducible apply Sel.cons | with_reducible apply Sel.drop)); done) | (repeat (first | exact Sel.refl | exact Sel.nil | exact Del.here | apply Del.there | apply Sel.cons | apply Sel.drop))), ⟨by rw [q1]; exact hsm1, by dsimp only; omega⟩⟩
            · apply DG.pure_ [11] 14 rfl (by kernel_rfl) (by kernel_rfl)
              · intro w
                refine WL.move rfl rfl ?_
                exact Chain.end_ rfl
              apply DG.take [12, 13, 14, 15, 16, 17, 18, 19, 20, 21, 22, 23, 24, 25] 0 rfl (by kernel_rfl) (by kernel_rfl) (M.sel (by first | ((repeat (first | with_reducible exact Sel.refl | with_reducible exact Sel.nil | with_reducible exact Del.here | with_reducible apply Del.there | with_reducible apply Sel.cons | with_reducible apply Sel.drop)); done) | (repeat (first | exact Sel.refl | exact Sel.nil | exact Del.here | apply Del.there | apply Sel.cons | apply Sel.drop))))
              · intro w M
                refine WL.off rfl rfl rfl rfl ?_
                refine WL.off rfl rfl rfl rfl ?_
                refine WL.off rfl rfl rfl rfl ?_
                refine WL.off rfl rfl rfl rfl ?_
                refine WL.off rfl rfl rfl rfl ?_
                refine WL.off rfl rfl rfl rfl ?_
                refine WL.off rfl rfl rfl rfl ?_
                refine WL.off rfl rfl rfl rfl ?_
                refine WL.off rfl rfl rfl rfl ?_
                refine WL.off rfl rfl rfl rfl ?_
                refine WL.off rfl rfl rfl rfl ?_
                refine WL.off rfl rfl rfl rfl ?_
                refine WL.off rfl rfl rfl rfl ?_
                refine WL.pickF rfl rfl rfl ?_
                exact Chain.end_ rfl
              refine DG.end_ (by kernel_rfl) ?_
              refine WX.next ?_
              refine W.sub [(0, _), (3, _), (5, _), (76, _)] (.cons rfl (.cons rfl (.cons rfl (.cons rfl .nil)))) ?_
              refine W.condF rfl ?_
              refine W.skip ?_
              have q1 : rh2 (rh1 r s) s = (rh1 r s).m := by unfold rh2; rw [if_neg (fun h => by have h2 := h.2.1; rw [hgt1, hs1] at h2; omega)]
              refine WX.join ((ls1, (B1, cB1))) (by (repeat' (first | exact envSub.nil | refine envSub.cons ?_ ?_)) <;> first | rfl | (refine congrArg some ?_; refine congrArg (Value.int _) ?_; first | omega | (dsimp only; omega)) | (simp; done) | (refine congrArg some ?_; dsimp only; congr 1; omega) | (simp; omega)) ⟨M.sel (by first | ((repeat (first | with_reducible exact Sel.refl | with_reducible exact Sel.nil | with_reducible exact Del.here | with_reducible apply Del.there | with_reducible apply Sel.cons | with_reducible apply Sel.drop)); done) | (repeat (first | exact Sel.refl | exact Sel.nil | exact Del.here | apply Del.there | apply Sel.cons | apply Sel.drop))), ⟨by rw [q1]; exact hsm1, by dsimp only; omega⟩⟩
          · apply DG.pure_ [2, 3, 5, 6, 7] 19 rfl (by kernel_rfl) (by kernel_rfl)
            · intro w
              refine WL.move rfl rfl ?_
              refine WL.off rfl rfl rfl rfl ?_
              refine WL.off rfl rfl rfl rfl ?_
              refine WL.off rfl rfl rfl rfl ?_
              refine WL.off rfl rfl rfl rfl ?_
              exact Chain.end_ rfl
            apply DG.take [4, 8, 9, 10] 15 rfl (by kernel_rfl) (by kernel_rfl) (M.sel (by first | ((repeat (first | with_reducible exact Sel.refl | with_reducible exact Sel.nil | with_reducible exact Del.here | with_reducible apply Del.there | with_reducible apply Sel.cons | with_reducible apply Sel.drop)); done) | (repeat (first | exact Sel.refl | exact Sel.nil | exact Del.here | apply Del.there | apply Sel.cons | apply Sel.drop))))
            · intro w M
              refine WL.off rfl rfl rfl rfl ?_
              refine WL.off rfl rfl rfl rfl ?_
              refine WL.off rfl rfl rfl rfl ?_
              refine WL.pickF rfl rfl rfl ?_
              exact Chain.end_ rfl
            apply DG.pure_ [11] 14 rfl (by kernel_rfl) (by kernel_rfl)
            · intro w
              refine WL.move rfl rfl ?_
              exact Chain.end_ rfl
            apply DG.take [12, 13, 14, 15, 16, 17, 18, 19, 20, 21, 22, 23, 24, 25] 0 rfl (by kernel_rfl) (by kernel_rfl) (M.sel (by first | ((repeat (first | with_reducible exact Sel.refl | with_reducible exact Sel.nil | with_reducible exact Del.here | with_reducible apply Del.there | with_reducible apply Sel.cons | with_reducible apply Sel.drop)); done) | (repeat (first | exact Sel.refl | exact Sel.nil | exact Del.here | apply Del.there | apply Sel.cons | apply Sel.drop))))
            · intro w M
              refine WL.off rfl rfl rfl rfl ?_
              refine WL.off rfl rfl rfl rfl ?_
              refine WL.off rfl rfl rfl rfl ?_
              refine WL.off rfl rfl rfl rfl ?_
              refine WL.off rfl rfl rfl rfl ?_
              refine WL.off rfl rfl rfl rfl ?_
              refine WL.off rfl rfl rfl rfl ?_
              refine WL.off rfl rfl rfl rfl ?_
              refine WL.off rfl rfl rfl rfl ?_
              refine WL.off rfl rfl rfl rfl ?_
              refine WL.off rfl rfl rfl rfl ?_
              refine WL.off rfl rfl rfl rfl ?_
              refine WL.off rfl rfl rfl rfl ?_
              refine WL.pickF rfl rfl rfl ?_
              exact Chain.end_ rfl
            refine DG.end_ (by kernel_rfl) ?_
            refine WX.next ?_
            refine W.sub [(0, _), (3, _), (5, _), (76, _)] (.cons rfl (.cons rfl (.cons rfl (.cons rfl .nil)))) ?_
            refine W.condF rfl ?_
            refine W.skip ?_
            skip
            have q1 : rh2 (rh1 r s) s = (rh1 r s).m := by
              unfold rh2
              rw [if_neg]
              intro h
              have h1 := h.2.1
              have h2 := h.1
              rw [hs1] at h2
              rw [hgt1, hs1] at h1
              rw [← hsm1 qseq h1] at h2
              rcases hfd1 with ⟨h3, _⟩ | ⟨j, _, _, h3⟩
              · omega
              · rw [h3] at h2
                cases h2
            refine WX.join ((ls1, (B1, cB1))) (by (repeat' (first | exact envSub.nil | refine envSub.cons ?_ ?_)) <;> first | rfl | (refine congrArg some ?_; refine congrArg (Value.int _) ?_; first | omega | (dsimp only; omega)) | (simp; done) | (refine congrArg some ?_; dsimp only; congr 1; omega) | (simp; omega)) ⟨M.sel (by first | ((repeat (first | with_reducible exact Sel.refl | with_reducible exact Sel.nil | with_reducible exact Del.here | with_reducible apply Del.there | with_reducible apply Sel.cons | with_reducible apply Sel.drop)); done) | (repeat (first | exact Sel.refl | exact Sel.nil | exact Del.here | apply Del.there | apply Sel.cons | apply Sel.drop))), ⟨by rw [q1]; exact hsm1, by dsimp only; omega⟩⟩
        clear M; rintro (⟨ls2, B2, cB2⟩) w ⟨M, ⟨hsm2, hle2⟩⟩; dsimp only at M hsm2 hle2 ⊢
        refine W.sub [(0, _), (5, _)] (.cons rfl (.cons rfl .nil)) ?_
        obtain ⟨hrg2, hn2, hl2⟩ := hm2
        refine W.seq ?_
        refine W.region ?_
        refine WL.assign rfl rfl ?_
        refine WL.nil ?_
        refine WX.next ?_
        refine W.sub [(0, _), (5, _), (9, _)] (.cons rfl (.cons rfl (.cons rfl .nil))) ?_
        refine W.seq ?_
        refine W.region ?_
        refine WL.move rfl rfl ?_
        refine WL.move rfl rfl ?_
        refine WL.nilCheck rfl rfl ?_
        refine WL.fieldR (off := 2) Try.underlying70 rfl rfl Try.sizeOf22 rfl rfl rfl ?_
        refine WL.loadR Try.isAgg22 rfl M (by first | ((repeat (first | with_reducible exact Has.here | with_reducible refine Has.there ?_)); done) | (repeat (first | exact Has.here | refine Has.there ?_))) rfl rfl ?_
        refine WL.add rfl rfl (show IntKind.u64.wrap ((got1 : Int) + 1) = ((got1 + 1 : Nat) : Int) by rw [wU64 (by omega)]; omega) rfl ?_
        refine WL.call Try.call46 rfl (has_ok g B2 cB2 ls2 window life1 got1 (got1 + 1) _ _ _ (by omega) (M.sel (K := Asr.row g 70 [.int .i64 (window : Int), .int .u64 (life1 : Int), .int .u64 (got1 : Int), .slice B2 ls2.length cB2] :: Asr.lst rearlyE B2 cB2 ls2 :: Asr.row g0_2 36 [.int .u64 0, .int .u64 0, .bool false, .slice none 0 0] :: Asr.star (ls2.map EX.O) :: L') (by first | ((repeat (first | with_reducible exact Sel.refl | with_reducible exact Sel.nil | with_reducible exact Del.here | with_reducible apply Del.there | with_reducible apply Sel.cons | with_reducible apply Sel.drop)); done) | (repeat (first | exact Sel.refl | exact Sel.nil | exact Del.here | apply Del.there | apply Sel.cons | apply Sel.drop))))) rfl ?_
        rintro _ w ⟨n2, rfl, hfd2, M⟩
        refine WL.assign rfl rfl ?_
        refine WL.nil ?_
        refine WX.next ?_
        refine W.sub [(0, _), (5, _), (8, _), (9, _)] (.cons rfl (.cons rfl (.cons rfl (.cons rfl .nil)))) ?_
        refine W.seq ?_
        refine W.block ?_
        refine W.loop (ι := (List (Nat × List UInt8) × Nat × List OX × Int) × (Option Addr × Nat)) (fun z => [(0, .pointer (some ⟨g, 0, none⟩)), (5, .pointer (some ⟨g0_2, 0, none⟩)), (8, .int .i64 z.1.2.2.2), (9, .slice z.2.1 z.1.2.2.1.length z.2.2)]) (fun i w => Mem w0 w ((fun z => Asr.row g0_2 36 [.int .u64 0, .int .u64 0, .bool false, .slice none 0 0] :: Asr.row g 70 [.int .i64 (window : Int), .int .u64 (life1 : Int), .int .u64 (z.1.2.1 : Int), .slice B2 ls2.length cB2] :: Asr.lst rearlyE B2 cB2 ls2 :: Asr.star (ls2.map EX.O) :: Asr.lst oxE z.2.1 z.2.2 z.1.2.2.1 :: L') i) ∧ (fun z => Found ls2 (z.1.2.1 + 1) z.1.2.2.2 ∧ (∀ k, z.1.2.1 < k → mget (ls2.map EX.key) k = mget z.1.1 k) ∧ (∀ p ∈ z.1.1, z.1.2.1 < p.1 ∧ p.1 ≤ got1 + window) ∧ (z.1.1.map (·.1)).Nodup ∧ got1 ≤ z.1.2.1 ∧ z.1.2.1 ≤ got1 + window ∧ z.1.2.2.1.length = z.1.2.1 - got1 ∧ z.1.2.1 + z.1.1.length ≤ 1000000000 ∧ (∀ o ∈ z.1.2.2.1, ∃ e ∈ ls2, o = e.x) ∧ rhD r s = ((drain (z.1.1.length + 1) z.1.2.1 z.1.1).1, (drain (z.1.1.length + 1) z.1.2.1 z.1.1).2.1, z.1.2.2.1.map OX.l ++ (drain (z.1.1.length + 1) z.1.2.1 z.1.1).2.2)) i) (fun z => z.1.1.length) (((rh2 (rh1 r s) s, got1, [], n2), (none, 0))) (by (repeat' (first | exact envSub.nil | refine envSub.cons ?_ ?_)) <;> first | rfl | (refine congrArg some ?_; refine congrArg (Value.int _) ?_; first | omega | (dsimp only; omega)) | (simp; done) | (refine congrArg some ?_; dsimp only; congr 1; omega) | (simp; omega)) ⟨(Mem.nilOwn M _ _).sel (by first | ((repeat (first | with_reducible exact Sel.refl | with_reducible exact Sel.nil | with_reducible exact Del.here | with_reducible apply Del.there | with_reducible apply Sel.cons | with_reducible apply Sel.drop)); done) | (repeat (first | exact Sel.refl | exact Sel.nil | exact Del.here | apply Del.there | apply Sel.cons | apply Sel.drop))), ⟨hfd2, hsm2, hrg2, hn2, Nat.le_refl _, Nat.le_add_right _ _, by simp, by dsimp only; omega, (fun o h => by cases h), by unfold rhD; rw [hgt1]; simp⟩⟩ ?_
        clear M; rintro (⟨⟨zm, zg, outs, zn⟩, Ao, co⟩) w ⟨M, ⟨hzf, hzs, hzr, hzd, hz1, hz2, hz3, hz4, hzo, hzD⟩⟩; dsimp only at M hzf hzs hzr hzd hz1 hz2 hz3 hz4 hzo hzD ⊢
        refine W.sub [(0, _), (5, _), (8, _), (9, _)] (.cons rfl (.cons rfl (.cons rfl (.cons rfl .nil)))) ?_
        refine W.seq ?_
        refine W.seq ?_
        refine W.region ?_
        refine WL.move rfl rfl ?_
        refine WL.geq rfl rfl rfl ?_
        refine WL.moveIf rfl rfl (fun c7 => ?_) (fun c7 => ?_)
        · obtain ⟨j, rfl, hj, hjm⟩ : ∃ j : Nat, zn = (j : Int) ∧ j < ls2.length ∧ mget (ls2.map EX.key) (zg + 1) = some (el ls2 j).x.l := by
            rcases hzf with ⟨h, _⟩ | h
            · omega
            · exact h
          have hz5 : mget zm (zg + 1) = some (el ls2 j).x.l := (hzs _ (by omega)).symm.trans hjm
          have hz6 := hzr _ (mget_mem hz5)
          have hz7 := (mdel_perm hz5).length_eq
          simp only [List.length_cons] at hz7
          dsimp only at hz6
          refine WL.on rfl rfl ?_
          refine WL.move rfl rfl ?_
          refine WL.on rfl rfl ?_
          refine WL.len Try.underlying33 rfl rfl ?_
          refine WL.on rfl rfl ?_
          refine WL.leq rfl rfl rfl ?_
          refine WL.pickT rfl rfl rfl ?_
          refine WL.nil ?_
          refine WX.next ?_
          refine W.sub [(0, _), (5, _), (8, _), (9, _), (105, _)] (.cons rfl (.cons rfl (.cons rfl (.cons rfl (.cons rfl .nil))))) ?_
          refine W.ite rfl (fun c8 => ?_) (fun c8 => ?_)
          · refine W.skip ?_
            refine WX.next ?_
            refine W.block ?_
            refine W.seq ?_
            refine W.region ?_
            refine WL.move rfl rfl ?_
            refine WL.move rfl rfl ?_
            refine WL.nilCheck rfl rfl ?_
            refine WL.fieldR (off := 3) Try.underlying70 rfl rfl Try.sizeOf68 rfl rfl rfl ?_
            refine WL.loadR Try.isAgg68 rfl M (by first | ((repeat (first | with_reducible exact Has.here | with_reducible refine Has.there ?_)); done) | (repeat (first | exact Has.here | refine Has.there ?_))) rfl rfl ?_
            refine WL.move rfl rfl ?_
            refine WL.idxA Try.underlying68 Try.sizeOf108 rfl rfl (RdL.isSome (E := rearlyE) (by first | with_reducible assumption | with_reducible exact RdL.mem (by with_reducible assumption) M | exact M.rdL (by first | ((repeat (first | with_reducible exact Has.here | with_reducible refine Has.there ?_)); done) | (repeat (first | exact Has.here | refine Has.there ?_))) | exact RdLH.at (by assumption) (M.sel (by first | ((repeat (first | with_reducible exact Sel.refl | with_reducible exact Sel.nil | with_reducible exact Del.here | with_reducible apply Del.there | with_reducible apply Sel.cons | with_reducible apply Sel.drop)); done) | (repeat (first | exact Sel.refl | exact Sel.nil | exact Del.here | apply Del.there | apply Sel.cons | apply Sel.drop)))) | exact RdL.nil _ _ _) (by omega)) (by omega) (by omega) (by first | exact rfl | exact (Int.toNat_of_nonneg (by omega)).symm) rfl ?_
            refine WL.fieldA (off := 1) Try.underlying108 rfl rfl Try.sizeOf34 rfl rfl rfl ?_
            refine WL.loadE (E := rearlyE) Try.isAgg34 rfl (by first | with_reducible assumption | with_reducible exact RdL.mem (by with_reducible assumption) M | exact M.rdL (by first | ((repeat (first | with_reducible exact Has.here | with_reducible refine Has.there ?_)); done) | (repeat (first | exact Has.here | refine Has.there ?_))) | exact RdLH.at (by assumption) (M.sel (by first | ((repeat (first | with_reducible exact Sel.refl | with_reducible exact Sel.nil | with_reducible exact Del.here | with_reducible apply Del.there | with_reducible apply Sel.cons | with_reducible apply Sel.drop)); done) | (repeat (first | exact Sel.refl | exact Sel.nil | exact Del.here | apply Del.there | apply Sel.cons | apply Sel.drop)))) | exact RdL.nil _ _ _) (by omega) rfl rfl ?_
            refine WL.buildL (E := oxE) (l := [(el ls2 j).x]) Try.elem34 M rfl rfl rfl rfl rfl rfl ?_
            intro g18_9 w M
            refine WL.appendL (E := oxE) Try.elem34 rfl rfl M (by first | ((repeat (first | with_reducible exact Del.here | with_reducible apply Del.there)); done) | (repeat (first | exact Del.here | apply Del.there))) (by first | with_reducible assumption | with_reducible exact RdL.mem (by with_reducible assumption) M | exact M.rdL (by first | ((repeat (first | with_reducible exact Has.here | with_reducible refine Has.there ?_)); done) | (repeat (first | exact Has.here | refine Has.there ?_))) | exact RdLH.at (by assumption) (M.sel (by first | ((repeat (first | with_reducible exact Sel.refl | with_reducible exact Sel.nil | with_reducible exact Del.here | with_reducible apply Del.there | with_reducible apply Sel.cons | with_reducible apply Sel.drop)); done) | (repeat (first | exact Sel.refl | exact Sel.nil | exact Del.here | apply Del.there | apply Sel.cons | apply Sel.drop)))) | exact RdL.nil _ _ _) rfl rfl (by simp; omega) (by simp [maxLen]; omega) rfl ?_
            intro A18_10 cap18_10 w M
            refine WL.assign rfl rfl ?_
            refine WL.nil ?_
            refine WX.next ?_
            refine W.sub [(0, _), (5, _), (9, _)] (.cons rfl (.cons rfl (.cons rfl .nil))) ?_
            refine W.seq ?_
            refine W.region ?_
            refine WL.move rfl rfl ?_
            refine WL.nilCheck rfl rfl ?_
            refine WL.fieldR (off := 2) Try.underlying70 rfl rfl Try.sizeOf22 rfl rfl rfl ?_
            refine WL.loadR Try.isAgg22 rfl M (by first | ((repeat (first | with_reducible exact Has.here | with_reducible refine Has.there ?_)); done) | (repeat (first | exact Has.here | refine Has.there ?_))) rfl rfl ?_
            refine WL.add rfl rfl (show IntKind.u64.wrap ((zg : Int) + 1) = ((zg + 1 : Nat) : Int) by rw [wU64 (by omega)]; omega) rfl ?_
            refine WL.nilCheck rfl rfl ?_
            refine WL.fieldR (off := 2) Try.underlying70 rfl rfl Try.sizeOf22 rfl rfl rfl ?_
            refine WL.storeR Try.sizeOf22 rfl rfl rfl M (by first | ((repeat (first | with_reducible exact Has.here | with_reducible refine Has.there ?_)); done) | (repeat (first | exact Has.here | refine Has.there ?_))) (by repeat (first | exact SetAt.zero | apply SetAt.succ)) (by first | ((repeat (first | with_reducible exact Upd.here | with_reducible apply Upd.there)); done) | (repeat (first | exact Upd.here | apply Upd.there))) ?_
            intro w M
            refine WL.nil ?_
            refine WX.next ?_
            refine W.sub [(0, _), (5, _), (9, _)] (.cons rfl (.cons rfl (.cons rfl .nil))) ?_
            refine W.region ?_
            refine WL.move rfl rfl ?_
            refine WL.move rfl rfl ?_
            refine WL.nilCheck rfl rfl ?_
            refine WL.fieldR (off := 2) Try.underlying70 rfl rfl Try.sizeOf22 rfl rfl rfl ?_
            refine WL.loadR Try.isAgg22 rfl M (by first | ((repeat (first | with_reducible exact Has.here | with_reducible refine Has.there ?_)); done) | (repeat (first | exact Has.here | refine Has.there ?_))) rfl rfl ?_
            refine WL.add rfl rfl (show IntKind.u64.wrap (((zg + 1 : Nat) : Int) + 1) = ((zg + 1 + 1 : Nat) : Int) by rw [wU64 (by omega)]; omega) rfl ?_
            refine WL.call Try.call46 rfl (has_ok g B2 cB2 ls2 window life1 (zg + 1) (zg + 1 + 1) _ _ _ (by omega) (M.sel (K := Asr.row g 70 [.int .i64 (window : Int), .int .u64 (life1 : Int), .int .u64 ((zg + 1 : Nat) : Int), .slice B2 ls2.length cB2] :: Asr.lst rearlyE B2 cB2 ls2 :: Asr.row g0_2 36 [.int .u64 0, .int .u64 0, .bool false, .slice none 0 0] :: Asr.star (ls2.map EX.O) :: Asr.lst oxE A18_10 cap18_10 (outs ++ [(el ls2 j).x]) :: L') (by first | ((repeat (first | with_reducible exact Sel.refl | with_reducible exact Sel.nil | with_reducible exact Del.here | with_reducible apply Del.there | with_reducible apply Sel.cons | with_reducible apply Sel.drop)); done) | (repeat (first | exact Sel.refl | exact Sel.nil | exact Del.here | apply Del.there | apply Sel.cons | apply Sel.drop))))) rfl ?_
            rintro _ w ⟨n3, rfl, hfd3, M⟩
            refine WL.assign rfl rfl ?_
            refine WL.nil ?_
            refine WX.blockNormal ?_
            skip
            have p1 : ∀ k, zg + 1 < k → mget (ls2.map EX.key) k = mget (mdel zm (zg + 1)) k := fun k hk => by rw [mget_mdel hzd, if_neg (by omega)]; exact hzs k (by omega)
            have p2 : ∀ p ∈ mdel zm (zg + 1), zg + 1 < p.1 ∧ p.1 ≤ got1 + window := by
              intro p hp
              have h1 := hzr p ((mdel_sub zm (zg + 1)).subset hp)
              have h2 := ((mdel_perm hz5).map (·.1)).nodup_iff.1 hzd
              rw [List.map_cons, List.nodup_cons] at h2
              have h3 : p.1 ≠ zg + 1 := fun e => h2.1 (List.mem_map.2 ⟨p, hp, e⟩)
              omega
            have p3 : ∀ o ∈ outs ++ [(el ls2 j).x], ∃ e ∈ ls2, o = e.x := by
              intro o h
              rcases List.mem_append.1 h with h | h
              · exact hzo o h
              · rw [List.mem_singleton] at h; exact ⟨el ls2 j, el_mem hj, h⟩
            have p4 : rhD r s = ((drain ((mdel zm (zg + 1)).length + 1) (zg + 1) (mdel zm (zg + 1))).1, (drain ((mdel zm (zg + 1)).length + 1) (zg + 1) (mdel zm (zg + 1))).2.1, (outs ++ [(el ls2 j).x]).map OX.l ++ (drain ((mdel zm (zg + 1)).length + 1) (zg + 1) (mdel zm (zg + 1))).2.2) := by
              rw [hzD, hz7, drain_some hz5]
              simp
            refine WX.round (((mdel zm (zg + 1), zg + 1, outs ++ [(el ls2 j).x], n3), (A18_10, cap18_10))) (by (repeat' (first | exact envSub.nil | refine envSub.cons ?_ ?_)) <;> first | rfl | (refine congrArg some ?_; refine congrArg (Value.int _) ?_; first | omega | (dsimp only; omega)) | (simp; done) | (refine congrArg some ?_; dsimp only; congr 1; omega) | (simp; omega)) ⟨M.sel (by first | ((repeat (first | with_reducible exact Sel.refl | with_reducible exact Sel.nil | with_reducible exact Del.here | with_reducible apply Del.there | with_reducible apply Sel.cons | with_reducible apply Sel.drop)); done) | (repeat (first | exact Sel.refl | exact Sel.nil | exact Del.here | apply Del.there | apply Sel.cons | apply Sel.drop))), ⟨hfd3, p1, p2, mdel_nodup hzd _, by dsimp only; omega, by dsimp only; omega, by simp; omega, by dsimp only; omega, p3, p4⟩⟩ (by first | omega | (dsimp only; omega))
          · exact absurd c8 (by omega)
        · have hz5 : mget zm (zg + 1) = none := by
            rw [← hzs _ (by omega)]
            rcases hzf with ⟨_, h⟩ | ⟨j, h, _⟩
            · exact h
            · omega
          have hdn : rhD r s = (zg, zm, outs.map OX.l) := by
            rw [hzD, drain_none hz5]
            simp
          refine WL.off rfl rfl rfl rfl ?_
          refine WL.off rfl rfl rfl rfl ?_
          refine WL.off rfl rfl rfl rfl ?_
          refine WL.pickF rfl rfl rfl ?_
          refine WL.nil ?_
          refine WX.next ?_
          refine W.sub [(0, _), (5, _), (8, _), (9, _), (105, _)] (.cons rfl (.cons rfl (.cons rfl (.cons rfl (.cons rfl .nil))))) ?_
          refine W.condF rfl ?_
          refine W.exit ?_
          refine WX.thenExit ?_
          refine WX.thenExit ?_
          refine WX.blockHere ?_
          refine WX.next ?_
          refine W.seq ?_
          refine W.drawM (_) (by kernel_rfl) (fun j => [4, 8].contains j) M Sel.refl ?_
          clear M; intro M
          apply DG.pure_ [0, 1, 2, 3, 5, 6, 7, 10] 5 rfl (by kernel_rfl) (by kernel_rfl)
          · intro w
            refine WL.move rfl rfl ?_
            refine WL.move rfl rfl ?_
            refine WL.nilCheck rfl rfl ?_
            refine WL.fieldR (off := 1) Try.underlying70 rfl rfl Try.sizeOf22 rfl rfl rfl ?_
            refine WL.move rfl rfl ?_
            refine WL.nilCheck rfl rfl ?_
            refine WL.fieldR (off := 2) Try.underlying70 rfl rfl Try.sizeOf22 rfl rfl rfl ?_
            refine WL.assign rfl rfl ?_
            exact Chain.end_ rfl
          apply DG.take [4, 8, 9] 2 rfl (by kernel_rfl) (by kernel_rfl) (M.sel (by first | ((repeat (first | with_reducible exact Sel.refl | with_reducible exact Sel.nil | with_reducible exact Del.here | with_reducible apply Del.there | with_reducible apply Sel.cons | with_reducible apply Sel.drop)); done) | (repeat (first | exact Sel.refl | exact Sel.nil | exact Del.here | apply Del.there | apply Sel.cons | apply Sel.drop))))
          · intro w M
            refine WL.loadR Try.isAgg22 rfl M (by first | ((repeat (first | with_reducible exact Has.here | with_reducible refine Has.there ?_)); done) | (repeat (first | exact Has.here | refine Has.there ?_))) rfl rfl ?_
            refine WL.loadR Try.isAgg22 rfl M (by first | ((repeat (first | with_reducible exact Has.here | with_reducible refine Has.there ?_)); done) | (repeat (first | exact Has.here | refine Has.there ?_))) rfl rfl ?_
            refine WL.buildP (places := #[(0, 1), (1, 1), (2, 1), (3, 1)]) Try.underlying36 Try.zeroValue36 (fun _ => by simp [Try.sizeOf22, Try.sizeOf22, Try.sizeOf4, Try.sizeOf34]) rfl (by repeat (first | exact Puts.nil | exact SetAt.zero | apply SetAt.succ | apply Puts.cons rfl rfl)) rfl ?_
            exact Chain.end_ rfl
          refine DG.step 11 1 rfl (by kernel_rfl) ?_
          refine WL.storeWA Try.sizeOf36 rfl rfl (by repeat (first | exact oneNil | refine oneCons rfl ?_)) rfl rfl M (by first | ((repeat (first | with_reducible exact Upd.here | with_reducible apply Upd.there)); done) | (repeat (first | exact Upd.here | apply Upd.there))) ?_
          intro w M
          refine DG.go (G := fun j => [4, 8].contains j) (i := 11) (f' := 1) (done := [0, 1, 2, 3, 5, 6, 7, 10, 4, 8, 9]) (fun h => by cases h) ?_
          apply DG.pure_ [12] 0 rfl (by kernel_rfl) (by kernel_rfl)
          · intro w
            refine WL.assign rfl rfl ?_
            exact Chain.end_ rfl
          refine DG.end_ (by kernel_rfl) ?_
          refine WX.next ?_
          refine W.sub [(4, _), (5, _), (6, _)] (.cons rfl (.cons rfl (.cons rfl .nil))) ?_
          refine W.ret ?_
          refine WX.retTCT (cs := [_, _, _, _]) rfl rfl rfl rfl Try.isAgg36 (by exact Try.sizeOf36) (M.cellsH (by first | ((repeat (first | with_reducible exact Has.here | with_reducible refine Has.there ?_)); done) | (repeat (first | exact Has.here | refine Has.there ?_)))) ?_
          refine ⟨⟨g, B2, cB2, ls2, window, life1, zg⟩, Ao, co, outs, ?_, rfl, ?_, hle2, ?_, hzo, ?_⟩
          · unfold rhA rhS
            rw [if_pos he, if_pos he, he, hdn, hlf1]
            rfl
          · unfold rhS
            rw [if_pos he, hdn]
            exact ⟨hw1.symm, hlf1.symm, rfl, hzs, fun p hp => by have := hzr p hp; rw [hw1]; dsimp only; omega⟩
          · unfold rhO
            rw [if_pos he, hdn]
          · exact Mem.f1 (Mem.star3 (M.sel (K := Asr.row g 70 [.int .i64 (window : Int), .int .u64 (life1 : Int), .int .u64 (zg : Int), .slice B2 ls2.length cB2] :: Asr.lst rearlyE B2 cB2 ls2 :: Asr.star (ls2.map EX.O) :: Asr.lst oxE Ao co outs :: L') (by first | ((repeat (first | with_reducible exact Sel.refl | with_reducible exact Sel.nil | with_reducible exact Del.here | with_reducible apply Del.there | with_reducible apply Sel.cons | with_reducible apply Sel.drop)); done) | (repeat (first | exact Sel.refl | exact Sel.nil | exact Del.here | apply Del.there | apply Sel.cons | apply Sel.drop)))))

/-- The document's receiver at g, standing for r. -/
def RrX.of (g : Nat) (B : Option Addr) (cB : Nat) (ls : List EX) (r : Rc) : RrX := ⟨g, B, cB, ls, r.window, r.life, r.got⟩
theorem refHearR2 (g : Nat) (B : Option Addr) (cB : Nat) (ls : List EX) (r : Rc) (hx : (RrX.of g B cB ls r).is r) (hr : r.ok) (hl : ls.length < 1000000) (q : SX) (hq1 : q.life < 18446744073709551616) (hq2 : q.seq < 18446744073709551616) (w0 w : World) (L L' : List Asr) (M : Mem w0 w L) (hd : Del (RrX.of g B cB ls r).O L L') (hb : RdH w0 L' q.x.A q.x.cap q.x.l) :
    Fn Try.prog 34 [.pointer (some ⟨g, 0, none⟩), q.v] w fun v w' => ∃ (B' : Option Addr) (cB' : Nat) (ls' : List EX) (A : Option Addr) (cap : Nat) (outs : List OX),
      v = .tuple #[.slice A outs.length cap, SX.v ⟨(rhA r q.key).1, (rhA r q.key).2.1, (rhA r q.key).2.2.1, ⟨none, 0, []⟩⟩, .int .i64 (rhE r q.key)] ∧ (RrX.of g B' cB' ls' (rhS r q.key)).is (rhS r q.key) ∧ ls'.length ≤ ls.length + 1 ∧
      outs.map OX.l = rhO r q.key ∧ (∀ o ∈ outs, ∃ e ∈ ls', o = e.x) ∧ Mem w0 w' (Asr.lst oxE A cap outs :: (RrX.of g B' cB' ls' (rhS r q.key)).O :: L') :=
  Fn.mono (refHearR_ok (RrX.of g B cB ls r) r hx hr hl q hq1 hq2 w0 w L L' M hd hb) fun v w' ⟨⟨g', B', cB', ls', wi, li, go⟩, A, cap, outs, hv, hg, his, hle, ho, hoo, M⟩ => by
    dsimp only [RrX.of] at hg hle hoo
    subst hg
    obtain ⟨h1, h2, h3, h4, h5⟩ := his
    dsimp only at h1 h2 h3
    refine ⟨B', cB', ls', A, cap, outs, hv, ⟨rfl, rfl, rfl, h4, h5⟩, hle, ho, hoo, ?_⟩
    unfold RrX.of
    rw [← h1, ← h2, ← h3]
    exact M
end Go.Proofs.Ytgaegaaaoopolaa
