/-
  Walks: the receiver (sess).
-/
import Derived.Test.YtgaegaaaoopolaaSess1
import Derived.Test.YtgaegaaaoopolaaMap
namespace Go.Proofs.Ytgaegaaaoopolaa
open Go Go.RowKit

section
variable {P : Program} {n : Nat} {ρ : List (Nat × Value)} {w : World} {t : TypeId}
/-- Three results, the middle one in memory. -/
theorem WX.retTCT {fn : Func} {R : Value → World → Prop} {p u s : Tmp} {v1 v3 : Value} {ad : Addr} {cs : List Value} (hr : fn.results = #[.tmp u, .cell p t, .tmp s]) (h1 : envGet ρ u = some v1) (h2 : envGet ρ p = some (.pointer (some ad))) (h3 : envGet ρ s = some v3)
    (hA : ∀ w, (isAgg t).run P w = .ok true w) (hs : ∀ w, (sizeOf t).run P w = .ok cs.length w) (hc : ∀ j v, cs[j]? = some v → w.cell? (ad.add j) = some v)
    (h : R (.tuple #[v1, .agg cs.toArray, v3]) w) : WX (Done P fn R) .ret n ρ w := fun a ha => ⟨ha.defers, _, by
      have e1 := ha.tmp h1
      have e2 := ha.tmp h2
      have e3 := ha.tmp h3
      simp only [results, hr]
      simp only [Array.getD_eq_getD_getElem?] at e1 e2 e3
      simp [e1, e2, e3, asAddr, run_loadVarAgg (P := P) hA hs hc], _, rfl, h⟩
end

def earlyM : MapE Nat OX := u64M fun x => .agg #[x.v]

/-- A receiver's state. -/
structure Rc where
  window : Nat
  life : Nat
  got : Nat
  m : List (Nat × List UInt8)
deriving DecidableEq
structure Rc.ok (r : Rc) : Prop where
  win : 1 ≤ r.window ∧ r.window ≤ 64
  life : r.life < 18446744073709551616
  got : r.got + r.m.length < 1000000000
  nodup : (r.m.map (·.1)).Nodup
  body : ∀ p ∈ r.m, p.2.length ≤ 1000

def rhE (r : Rc) (s : Nat × Nat × Bool × List UInt8) : Int := if isSeg s = false then 2 else if s.2.2.1 = true then 71 else if s.1 < r.life then 70 else 0
/-- What comes out in order. -/
def drain : Nat → Nat → List (Nat × List UInt8) → Nat × List (Nat × List UInt8) × List (List UInt8)
  | 0, got, m => (got, m, [])
  | f + 1, got, m => match mget m (got + 1) with
    | none => (got, m, [])
    | some b => ((drain f (got + 1) (mdel m (got + 1))).1, (drain f (got + 1) (mdel m (got + 1))).2.1, b :: (drain f (got + 1) (mdel m (got + 1))).2.2)
def rh1 (r : Rc) (s : Nat × Nat × Bool × List UInt8) : Rc := if r.life < s.1 then { r with life := s.1, got := 0, m := [] } else r
def rh2 (r : Rc) (s : Nat × Nat × Bool × List UInt8) : List (Nat × List UInt8) :=
  if mget r.m s.2.1 = none ∧ r.got < s.2.1 ∧ s.2.1 - r.got ≤ r.window then mput r.m s.2.1 s.2.2.2 else r.m
def rhD (r : Rc) (s : Nat × Nat × Bool × List UInt8) : Nat × List (Nat × List UInt8) × List (List UInt8) := drain ((rh2 (rh1 r s) s).length + 1) (rh1 r s).got (rh2 (rh1 r s) s)
def rhS (r : Rc) (s : Nat × Nat × Bool × List UInt8) : Rc := if rhE r s = 0 then { rh1 r s with got := (rhD r s).1, m := (rhD r s).2.1 } else r
def rhO (r : Rc) (s : Nat × Nat × Bool × List UInt8) : List (List UInt8) := if rhE r s = 0 then (rhD r s).2.2 else []
def rhA (r : Rc) (s : Nat × Nat × Bool × List UInt8) : Nat × Nat × Bool × List UInt8 := if rhE r s = 0 then ((rhS r s).life, (rhS r s).got, true, []) else (0, 0, false, [])

/-- A receiver as it lies. -/
structure RcX where
  g : Nat
  gm : Nat
  ms : List (Nat × OX)
  window : Nat
  life : Nat
  got : Nat
def RcX.row (x : RcX) : List Value := [.int .i64 (x.window : Int), .int .u64 (x.life : Int), .int .u64 (x.got : Int), .map (some x.gm)]
def RcX.O (x : RcX) : Asr := Asr.star [Asr.row x.g 102 x.row, Asr.mp earlyM x.gm x.ms, Asr.star (x.ms.map fun p => p.2.O)]
def RcX.p (x : RcX) : Value := .pointer (some ⟨x.g, 0, none⟩)
def RcX.r (x : RcX) : Rc := ⟨x.window, x.life, x.got, mmap OX.l x.ms⟩

theorem NewReceiver_ok (window : Int) (w0 : World) : Fn Try.prog 32 [.int .i64 window] w0 fun v w' =>
    if window < 1 ∨ window > 64 then v = .tuple #[.pointer none, .int .i64 2] ∧ Mem w0 w' [] else
      ∃ g gm, v = .tuple #[.pointer (some ⟨g, 0, none⟩), .int .i64 0] ∧ Mem w0 w' [RcX.O ⟨g, gm, [], window.toNat, 0, 0⟩] := by
  have M := Mem.refl w0
  refine Fn.enter Try.func32 rfl Try.ntmps32 rfl ?_
  refine W.sub [(0, _)] (.cons rfl .nil) ?_
  refine W.seq ?_
  refine W.region ?_
  refine WL.assign rfl rfl ?_
  refine WL.assign rfl rfl ?_
  refine WL.nil ?_
  refine WX.next ?_
  refine W.sub [(0, _)] (.cons rfl .nil) ?_
  refine W.seq ?_
  refine W.seq ?_
  refine W.region ?_
  refine WL.move rfl rfl ?_
  refine WL.lss rfl rfl rfl ?_
  refine WL.moveIf rfl rfl (fun c0 => ?_) (fun c0 => ?_)
  · refine WL.off rfl rfl rfl rfl ?_
    refine WL.off rfl rfl rfl rfl ?_
    refine WL.pickT rfl rfl rfl ?_
    refine WL.nil ?_
    refine WX.next ?_
    refine W.sub [(0, _), (9, _)] (.cons rfl (.cons rfl .nil)) ?_
    refine W.condT rfl ?_
    refine W.seq ?_
    refine W.region ?_
    refine WL.assign rfl rfl ?_
    refine WL.assign rfl rfl ?_
    refine WL.nil ?_
    refine WX.next ?_
    refine W.sub [(2, _), (3, _)] (.cons rfl (.cons rfl .nil)) ?_
    refine W.ret ?_
    refine WX.thenRet ?_
    refine WX.ret2 rfl rfl rfl ?_
    rw [if_pos (by omega)]; exact ⟨rfl, M⟩
  · refine WL.on rfl rfl ?_
    refine WL.move rfl rfl ?_
    refine WL.on rfl rfl ?_
    refine WL.gtr rfl rfl rfl ?_
    refine WL.pickF rfl rfl rfl ?_
    refine WL.nil ?_
    refine WX.next ?_
    refine W.sub [(0, _), (9, _)] (.cons rfl (.cons rfl .nil)) ?_
    refine W.ite rfl (fun c1 => ?_) (fun c1 => ?_)
    · refine W.seq ?_
      refine W.region ?_
      refine WL.assign rfl rfl ?_
      refine WL.assign rfl rfl ?_
      refine WL.nil ?_
      refine WX.next ?_
      refine W.sub [(2, _), (3, _)] (.cons rfl (.cons rfl .nil)) ?_
      refine W.ret ?_
      refine WX.thenRet ?_
      refine WX.ret2 rfl rfl rfl ?_
      rw [if_pos (by omega)]; exact ⟨rfl, M⟩
    · refine W.skip ?_
      refine WX.next ?_
      refine W.seq ?_
      refine W.region ?_
      refine WL.move rfl rfl ?_
      refine WL.makeMap earlyM M rfl ?_
      intro g3_1 w M
      refine WL.buildP (places := #[(0, 1), (1, 1), (2, 1), (3, 1)]) Try.underlying102 Try.zeroValue102 (fun _ => by simp [Try.sizeOf3, Try.sizeOf22, Try.sizeOf22, Try.sizeOf100]) rfl (by repeat (first | exact Puts.nil | exact SetAt.zero | apply SetAt.succ | apply Puts.cons rfl rfl)) rfl ?_
      refine WL.box rfl M rfl ?_
      intro g3_3 w M
      try simp only [Value.cells] at M
      try simp only [List.toList_toArray] at M
      refine WL.assign rfl rfl ?_
      refine WL.assign rfl rfl ?_
      refine WL.nil ?_
      refine WX.next ?_
      refine W.sub [(2, _), (3, _)] (.cons rfl (.cons rfl .nil)) ?_
      refine W.ret ?_
      refine WX.ret2 rfl rfl rfl ?_
      rw [if_neg (by omega)]
      refine ⟨g3_3, g3_1, rfl, ?_⟩
      have e1 : ((window.toNat : Nat) : Int) = window := by omega
      refine Mem.star3 ?_
      unfold RcX.row
      dsimp only
      rw [e1]
      exact Mem.f2 (Mem.f2 M.starNil)

theorem Got_ok (x : RcX) (w0 w : World) (L L' : List Asr) (M : Mem w0 w L) (hd : Del x.O L L') :
    Fn Try.prog 35 [x.p] w fun v w' => v = .tuple #[.int .u64 (x.life : Int), .int .u64 (x.got : Int)] ∧ Mem w0 w' L := by
  have M0 := M
  replace M := (M.del hd).unstar3
  unfold RcX.row at M
  obtain ⟨g, gm, ms, window, life, got⟩ := x
  dsimp only [RcX.p] at M ⊢
  refine Fn.enter Try.func35 rfl Try.ntmps35 rfl ?_
  refine W.sub [(0, _)] (.cons rfl .nil) ?_
  refine W.seq ?_
  refine W.region ?_
  refine WL.assign rfl rfl ?_
  refine WL.assign rfl rfl ?_
  refine WL.nil ?_
  refine WX.next ?_
  refine W.sub [(0, _)] (.cons rfl .nil) ?_
  refine W.seq ?_
  refine W.seq ?_
  refine W.region ?_
  refine WL.move rfl rfl ?_
  refine WL.eqNilF Try.underlying60 rfl rfl rfl ?_
  refine WL.nil ?_
  refine WX.next ?_
  refine W.sub [(0, _), (5, _)] (.cons rfl (.cons rfl .nil)) ?_
  refine W.condF rfl ?_
  refine W.skip ?_
  refine WX.next ?_
  refine W.seq ?_
  refine W.drawM (_) (by kernel_rfl) (fun j => [3, 7, 8].contains j) M Sel.refl ?_
  clear M; intro M
  apply DG.pure_ [0, 1, 2, 4, 5, 6] 4 rfl (by kernel_rfl) (by kernel_rfl)
  · intro w
    refine WL.move rfl rfl ?_
    refine WL.nilCheck rfl rfl ?_
    refine WL.fieldR (off := 1) Try.underlying102 rfl rfl Try.sizeOf22 rfl rfl rfl ?_
    refine WL.move rfl rfl ?_
    refine WL.nilCheck rfl rfl ?_
    refine WL.fieldR (off := 2) Try.underlying102 rfl rfl Try.sizeOf22 rfl rfl rfl ?_
    exact Chain.end_ rfl
  apply DG.take [3, 7, 8, 9] 0 rfl (by kernel_rfl) (by kernel_rfl) (M.sel (by first | ((repeat (first | with_reducible exact Sel.refl | with_reducible exact Sel.nil | with_reducible exact Del.here | with_reducible apply Del.there | with_reducible apply Sel.cons | with_reducible apply Sel.drop)); done) | (repeat (first | exact Sel.refl | exact Sel.nil | exact Del.here | apply Del.there | apply Sel.cons | apply Sel.drop))))
  · intro w M
    refine WL.loadR Try.isAgg22 rfl M (by first | ((repeat (first | with_reducible exact Has.here | with_reducible refine Has.there ?_)); done) | (repeat (first | exact Has.here | refine Has.there ?_))) rfl rfl ?_
    refine WL.loadR Try.isAgg22 rfl M (by first | ((repeat (first | with_reducible exact Has.here | with_reducible refine Has.there ?_)); done) | (repeat (first | exact Has.here | refine Has.there ?_))) rfl rfl ?_
    refine WL.assign rfl rfl ?_
    refine WL.assign rfl rfl ?_
    exact Chain.end_ rfl
  refine DG.end_ (by kernel_rfl) ?_
  refine WX.next ?_
  refine W.sub [(2, _), (3, _)] (.cons rfl (.cons rfl .nil)) ?_
  refine W.ret ?_
  refine WX.ret2 rfl rfl rfl ?_
  exact ⟨rfl, M0.drew⟩

theorem drain_none {f got : Nat} {m : List (Nat × List UInt8)} (h : mget m (got + 1) = none) : drain (f + 1) got m = (got, m, []) := by rw [drain, h]
theorem drain_some {f got : Nat} {m : List (Nat × List UInt8)} {b : List UInt8} (h : mget m (got + 1) = some b) :
    drain (f + 1) got m = ((drain f (got + 1) (mdel m (got + 1))).1, (drain f (got + 1) (mdel m (got + 1))).2.1, b :: (drain f (got + 1) (mdel m (got + 1))).2.2) := by rw [drain, h]
theorem mmap_length {κ α β : Type} (f : α → β) (ms : List (κ × α)) : (mmap f ms).length = ms.length := by simp [mmap]
theorem mmap_keys {κ α β : Type} (f : α → β) (ms : List (κ × α)) : (mmap f ms).map (·.1) = ms.map (·.1) := by simp [mmap]

set_option maxRecDepth 10000 in
set_option maxHeartbeats 1000000 in
theorem HearR_ok (x : RcX) (hr : x.r.ok) (q : SX) (hq1 : q.life < 18446744073709551616) (hq2 : q.seq < 18446744073709551616) (w0 w : World) (L L' : List Asr) (M : Mem w0 w L) (hd : Del x.O L L') (hb : RdH w0 L' q.x.A q.x.cap q.x.l) :
    Fn Try.prog 33 [x.p, q.v] w fun v w' => ∃ (x' : RcX) (A : Option Addr) (cap : Nat) (outs : List OX),
      v = .tuple #[.slice A outs.length cap, SX.v ⟨(rhA x.r q.key).1, (rhA x.r q.key).2.1, (rhA x.r q.key).2.2.1, ⟨none, 0, []⟩⟩, .int .i64 (rhE x.r q.key)] ∧ x'.g = x.g ∧ x'.r = rhS x.r q.key ∧
      outs.map OX.l = rhO x.r q.key ∧ (∀ o ∈ outs, o.l.length ≤ 1000) ∧ Mem w0 w' (Asr.lst oxE A cap outs :: Asr.star (outs.map OX.O) :: x'.O :: L') := by
  replace M := (M.del hd).unstar3
  obtain ⟨hwin, hlife, hgot, hnd, hbody⟩ := hr
  unfold RcX.row at M
  unfold SX.v
  obtain ⟨g, gm, ms, window, life, got⟩ := x
  obtain ⟨qlife, qseq, qack, ⟨QA, qcap, ql⟩⟩ := q
  dsimp only [RcX.p, RcX.r, OX.v, SX.key] at M hwin hlife hgot hnd hbody hq1 hq2 hb ⊢
  rw [mmap_length] at hgot
  rw [mmap_keys] at hnd
  obtain ⟨r, hr⟩ : ∃ r : Rc, r = ⟨window, life, got, mmap OX.l ms⟩ := ⟨_, rfl⟩
  obtain ⟨s, hs⟩ : ∃ s : Nat × Nat × Bool × List UInt8, s = (qlife, qseq, qack, ql) := ⟨_, rfl⟩
  rw [← hr, ← hs]
  have bad : ∀ {w' : World} {L2 : List Asr}, Mem w0 w' L2 → Sel L2 (Asr.row g 102 [.int .i64 (window : Int), .int .u64 (life : Int), .int .u64 (got : Int), .map (some gm)] :: Asr.mp earlyM gm ms :: Asr.star (ms.map fun p => p.2.O) :: L') → ∀ e : Int, e ≠ 0 → rhE r s = e →
      ∃ (x' : RcX) (A : Option Addr) (cap : Nat) (outs : List OX), Value.tuple #[.slice none 0 0, .agg [.int .u64 0, .int .u64 0, .bool false, .slice none 0 0].toArray, .int .i64 e] = .tuple #[.slice A outs.length cap, .agg #[.int .u64 ((rhA r s).1 : Int), .int .u64 ((rhA r s).2.1 : Int), .bool (rhA r s).2.2.1, .slice none 0 0], .int .i64 (rhE r s)] ∧ x'.g = g ∧ x'.r = rhS r s ∧
        outs.map OX.l = rhO r s ∧ (∀ o ∈ outs, o.l.length ≤ 1000) ∧ Mem w0 w' (Asr.lst oxE A cap outs :: Asr.star (outs.map OX.O) :: x'.O :: L') := by
    intro w' L2 M2 hsel e he0 he
    have hne : ¬ (rhE r s = 0) := by rw [he]; exact he0
    refine ⟨⟨g, gm, ms, window, life, got⟩, none, 0, [], ?_, rfl, ?_, ?_, (fun o h => by cases h), ?_⟩
    · unfold rhA
      rw [if_neg hne, he]
      rfl
    · unfold rhS
      rw [if_neg hne, hr]
      rfl
    · unfold rhO
      rw [if_neg hne]
      rfl
    · exact Mem.nilOwn (Mem.starNil (Mem.star3 (M2.sel hsel))) _ _
  refine Fn.enter Try.func33 rfl Try.ntmps33 rfl ?_
  refine W.sub [(0, _), (1, _)] (.cons rfl (.cons rfl .nil)) ?_
  refine W.seq ?_
  refine W.region ?_
  refine WL.box rfl M rfl ?_
  intro g0_0 w M
  try simp only [Value.cells] at M
  try simp only [List.toList_toArray] at M
  refine WL.assign rfl rfl ?_
  refine WL.alloc Try.zeroValue36 M rfl ?_
  intro g0_2 w M
  try simp only [Value.cells] at M
  try simp only [List.toList_toArray] at M
  refine WL.assign rfl rfl ?_
  refine WL.nil ?_
  refine WX.next ?_
  refine W.sub [(0, _), (3, _), (5, _)] (.cons rfl (.cons rfl (.cons rfl .nil))) ?_
  refine W.seq ?_
  refine W.block ?_
  refine W.seq ?_
  refine W.region ?_
  refine WL.move rfl rfl ?_
  refine WL.eqNilF Try.underlying60 rfl rfl rfl ?_
  refine WL.assign rfl rfl ?_
  refine WL.nil ?_
  refine WX.next ?_
  refine W.sub [(0, _), (3, _), (5, _), (12, _)] (.cons rfl (.cons rfl (.cons rfl (.cons rfl .nil)))) ?_
  refine W.condF rfl ?_
  refine W.seq ?_
  refine W.region ?_
  refine WL.loadW Try.isAgg36 Try.sizeOf36 rfl M (by first | ((repeat (first | with_reducible exact Has.here | with_reducible refine Has.there ?_)); done) | (repeat (first | exact Has.here | refine Has.there ?_))) rfl rfl ?_
  refine WL.call Try.call43 rfl (right_ok ⟨qlife, qseq, qack, ⟨QA, qcap, ql⟩⟩ _) rfl ?_
  rintro _ w ⟨rfl, m⟩
  replace M := M.call0 m; clear m
  dsimp only [SX.key]
  rw [← hs]
  refine WL.not rfl rfl ?_
  refine WL.assign rfl rfl ?_
  refine WL.nil ?_
  refine WX.next ?_
  refine W.sub [(0, _), (3, _), (5, _), (16, _)] (.cons rfl (.cons rfl (.cons rfl (.cons rfl .nil)))) ?_
  refine W.cond rfl (fun c1 => ?_) (fun c1 => ?_)
  · (try simp only [Bool.not_eq_true'] at c1); (try simp only [Bool.not_eq_false'] at c1); (try simp only [decide_eq_true_eq] at c1); (try simp only [decide_eq_false_iff_not] at c1)
    have c1' : isSeg s = false := by simpa using c1
    refine W.seq ?_
    refine W.region ?_
    refine WL.buildP (places := #[(0, 1), (1, 1), (2, 1), (3, 1)]) Try.underlying36 Try.zeroValue36 (fun _ => by simp [Try.sizeOf22, Try.sizeOf22, Try.sizeOf4, Try.sizeOf34]) rfl (by repeat (first | exact Puts.nil | exact SetAt.zero | apply SetAt.succ | apply Puts.cons rfl rfl)) rfl ?_
    refine WL.assign rfl rfl ?_
    refine WL.storeWA Try.sizeOf36 rfl rfl (by repeat (first | exact oneNil | refine oneCons rfl ?_)) rfl rfl M (by first | ((repeat (first | with_reducible exact Upd.here | with_reducible apply Upd.there)); done) | (repeat (first | exact Upd.here | apply Upd.there))) ?_
    intro w M
    refine WL.assign rfl rfl ?_
    refine WL.nil ?_
    refine WX.next ?_
    refine W.sub [(4, _), (5, _), (6, _)] (.cons rfl (.cons rfl (.cons rfl .nil))) ?_
    refine W.ret ?_
    refine WX.blockRet ?_
    refine WX.thenRet ?_
    refine WX.retTCT (cs := [_, _, _, _]) rfl rfl rfl rfl Try.isAgg36 (by exact Try.sizeOf36) (M.cellsH (by first | ((repeat (first | with_reducible exact Has.here | with_reducible refine Has.there ?_)); done) | (repeat (first | exact Has.here | refine Has.there ?_)))) ?_
    exact bad M (by first | ((repeat (first | with_reducible exact Sel.refl | with_reducible exact Sel.nil | with_reducible exact Del.here | with_reducible apply Del.there | with_reducible apply Sel.cons | with_reducible apply Sel.drop)); done) | (repeat (first | exact Sel.refl | exact Sel.nil | exact Del.here | apply Del.there | apply Sel.cons | apply Sel.drop))) 2 (by omega) (by unfold rhE; rw [if_pos c1'])
  · (try simp only [Bool.not_eq_true'] at c1); (try simp only [Bool.not_eq_false'] at c1); (try simp only [decide_eq_true_eq] at c1); (try simp only [decide_eq_false_iff_not] at c1)
    have g1 : ¬ (isSeg s = false) := by simpa using c1
    refine W.seq ?_
    refine W.region ?_
    refine WL.fieldR (off := 2) Try.underlying36 rfl rfl Try.sizeOf4 rfl rfl rfl ?_
    refine WL.loadR Try.isAgg4 rfl M (by first | ((repeat (first | with_reducible exact Has.here | with_reducible refine Has.there ?_)); done) | (repeat (first | exact Has.here | refine Has.there ?_))) rfl rfl ?_
    refine WL.assign rfl rfl ?_
    refine WL.nil ?_
    refine WX.next ?_
    refine W.sub [(0, _), (3, _), (5, _), (21, _)] (.cons rfl (.cons rfl (.cons rfl (.cons rfl .nil)))) ?_
    refine W.cond rfl (fun c2 => ?_) (fun c2 => ?_)
    · (try simp only [Bool.not_eq_true'] at c2); (try simp only [Bool.not_eq_false'] at c2); (try simp only [decide_eq_true_eq] at c2); (try simp only [decide_eq_false_iff_not] at c2)
      refine W.seq ?_
      refine W.region ?_
      refine WL.buildP (places := #[(0, 1), (1, 1), (2, 1), (3, 1)]) Try.underlying36 Try.zeroValue36 (fun _ => by simp [Try.sizeOf22, Try.sizeOf22, Try.sizeOf4, Try.sizeOf34]) rfl (by repeat (first | exact Puts.nil | exact SetAt.zero | apply SetAt.succ | apply Puts.cons rfl rfl)) rfl ?_
      refine WL.assign rfl rfl ?_
      refine WL.storeWA Try.sizeOf36 rfl rfl (by repeat (first | exact oneNil | refine oneCons rfl ?_)) rfl rfl M (by first | ((repeat (first | with_reducible exact Upd.here | with_reducible apply Upd.there)); done) | (repeat (first | exact Upd.here | apply Upd.there))) ?_
      intro w M
      refine WL.assign rfl rfl ?_
      refine WL.nil ?_
      refine WX.next ?_
      refine W.sub [(4, _), (5, _), (6, _)] (.cons rfl (.cons rfl (.cons rfl .nil))) ?_
      refine W.ret ?_
      refine WX.blockRet ?_
      refine WX.thenRet ?_
      refine WX.retTCT (cs := [_, _, _, _]) rfl rfl rfl rfl Try.isAgg36 (by exact Try.sizeOf36) (M.cellsH (by first | ((repeat (first | with_reducible exact Has.here | with_reducible refine Has.there ?_)); done) | (repeat (first | exact Has.here | refine Has.there ?_)))) ?_
      exact bad M (by first | ((repeat (first | with_reducible exact Sel.refl | with_reducible exact Sel.nil | with_reducible exact Del.here | with_reducible apply Del.there | with_reducible apply Sel.cons | with_reducible apply Sel.drop)); done) | (repeat (first | exact Sel.refl | exact Sel.nil | exact Del.here | apply Del.there | apply Sel.cons | apply Sel.drop))) 71 (by omega) (by unfold rhE; rw [if_neg g1, if_pos (by rw [hs]; exact c2)])
    · (try simp only [Bool.not_eq_true'] at c2); (try simp only [Bool.not_eq_false'] at c2); (try simp only [decide_eq_true_eq] at c2); (try simp only [decide_eq_false_iff_not] at c2)
      have g2 : ¬ (s.2.2.1 = true) := by rw [hs]; simpa using c2
      refine W.seq ?_
      refine W.drawM (_) (by kernel_rfl) (fun j => [1, 5].contains j) M Sel.refl ?_
      clear M; intro M
      apply DG.pure_ [0, 2, 3, 4] 4 rfl (by kernel_rfl) (by kernel_rfl)
      · intro w
        refine WL.fieldR (off := 0) Try.underlying36 rfl rfl Try.sizeOf22 rfl rfl rfl ?_
        refine WL.move rfl rfl ?_
        refine WL.nilCheck rfl rfl ?_
        refine WL.fieldR (off := 1) Try.underlying102 rfl rfl Try.sizeOf22 rfl rfl rfl ?_
        exact Chain.end_ rfl
      apply DG.take [1, 5, 6, 7] 0 rfl (by kernel_rfl) (by kernel_rfl) (M.sel (by first | ((repeat (first | with_reducible exact Sel.refl | with_reducible exact Sel.nil | with_reducible exact Del.here | with_reducible apply Del.there | with_reducible apply Sel.cons | with_reducible apply Sel.drop)); done) | (repeat (first | exact Sel.refl | exact Sel.nil | exact Del.here | apply Del.there | apply Sel.cons | apply Sel.drop))))
      · intro w M
        refine WL.loadR Try.isAgg22 rfl M (by first | ((repeat (first | with_reducible exact Has.here | with_reducible refine Has.there ?_)); done) | (repeat (first | exact Has.here | refine Has.there ?_))) rfl rfl ?_
        refine WL.loadR Try.isAgg22 rfl M (by first | ((repeat (first | with_reducible exact Has.here | with_reducible refine Has.there ?_)); done) | (repeat (first | exact Has.here | refine Has.there ?_))) rfl rfl ?_
        refine WL.lss rfl rfl rfl ?_
        refine WL.assign rfl rfl ?_
        exact Chain.end_ rfl
      refine DG.end_ (by kernel_rfl) ?_
      refine WX.next ?_
      refine W.sub [(0, _), (3, _), (5, _), (25, _)] (.cons rfl (.cons rfl (.cons rfl (.cons rfl .nil)))) ?_
      refine W.ite rfl (fun c3 => ?_) (fun c3 => ?_)
      · refine W.seq ?_
        refine W.region ?_
        refine WL.buildP (places := #[(0, 1), (1, 1), (2, 1), (3, 1)]) Try.underlying36 Try.zeroValue36 (fun _ => by simp [Try.sizeOf22, Try.sizeOf22, Try.sizeOf4, Try.sizeOf34]) rfl (by repeat (first | exact Puts.nil | exact SetAt.zero | apply SetAt.succ | apply Puts.cons rfl rfl)) rfl ?_
        refine WL.assign rfl rfl ?_
        refine WL.storeWA Try.sizeOf36 rfl rfl (by repeat (first | exact oneNil | refine oneCons rfl ?_)) rfl rfl M (by first | ((repeat (first | with_reducible exact Upd.here | with_reducible apply Upd.there)); done) | (repeat (first | exact Upd.here | apply Upd.there))) ?_
        intro w M
        refine WL.assign rfl rfl ?_
        refine WL.nil ?_
        refine WX.next ?_
        refine W.sub [(4, _), (5, _), (6, _)] (.cons rfl (.cons rfl (.cons rfl .nil))) ?_
        refine W.ret ?_
        refine WX.blockRet ?_
        refine WX.thenRet ?_
        refine WX.retTCT (cs := [_, _, _, _]) rfl rfl rfl rfl Try.isAgg36 (by exact Try.sizeOf36) (M.cellsH (by first | ((repeat (first | with_reducible exact Has.here | with_reducible refine Has.there ?_)); done) | (repeat (first | exact Has.here | refine Has.there ?_)))) ?_
        exact bad M (by first | ((repeat (first | with_reducible exact Sel.refl | with_reducible exact Sel.nil | with_reducible exact Del.here | with_reducible apply Del.there | with_reducible apply Sel.cons | with_reducible apply Sel.drop)); done) | (repeat (first | exact Sel.refl | exact Sel.nil | exact Del.here | apply Del.there | apply Sel.cons | apply Sel.drop))) 70 (by omega) (by unfold rhE; rw [if_neg g1, if_neg g2, if_pos (by rw [hs, hr]; dsimp only; omega)])
      · have he : rhE r s = 0 := by unfold rhE; rw [if_neg g1, if_neg g2, if_neg (by rw [hs, hr]; dsimp only; omega)]
        have hseg : ql.length ≤ 1000 := by
          have := g1
          rw [hs] at this
          unfold isSeg at this
          simp at this
          split at this
          · simp at this; simp [this]
          · simp at this; omega
        refine W.skip ?_
        refine WX.blockNormal ?_
        refine WX.next ?_
        refine W.joint (fun (z : List (Nat × OX) × Nat × Nat) => [(0, .pointer (some ⟨g, 0, none⟩)), (3, .pointer (some ⟨g0_0, 0, none⟩)), (5, .pointer (some ⟨g0_2, 0, none⟩))]) (fun j w => Mem w0 w ((fun z => Asr.row g0_0 36 [.int .u64 (qlife : Int), .int .u64 (qseq : Int), .bool qack, .slice QA ql.length qcap] :: Asr.row g0_2 36 [.int .u64 0, .int .u64 0, .bool false, .slice none 0 0] :: Asr.row g 102 [.int .i64 (window : Int), .int .u64 (z.2.1 : Int), .int .u64 (z.2.2 : Int), .map (some gm)] :: Asr.mp earlyM gm z.1 :: Asr.star (z.1.map fun p => p.2.O) :: L') j) ∧ (fun z => rh1 r s = ⟨window, z.2.1, z.2.2, mmap OX.l z.1⟩ ∧ z.2.2 + z.1.length < 1000000000 ∧ (z.1.map (·.1)).Nodup ∧ (∀ p ∈ z.1, p.2.l.length ≤ 1000)) j) ?_ ?_
        · refine W.seq ?_
          refine W.drawM (_) (by kernel_rfl) (fun j => [1, 5].contains j) M Sel.refl ?_
          clear M; intro M
          apply DG.pure_ [0, 2, 3, 4] 3 rfl (by kernel_rfl) (by kernel_rfl)
          · intro w
            refine WL.fieldR (off := 0) Try.underlying36 rfl rfl Try.sizeOf22 rfl rfl rfl ?_
            refine WL.move rfl rfl ?_
            refine WL.nilCheck rfl rfl ?_
            refine WL.fieldR (off := 1) Try.underlying102 rfl rfl Try.sizeOf22 rfl rfl rfl ?_
            exact Chain.end_ rfl
          apply DG.take [1, 5, 6] 0 rfl (by kernel_rfl) (by kernel_rfl) (M.sel (by first | ((repeat (first | with_reducible exact Sel.refl | with_reducible exact Sel.nil | with_reducible exact Del.here | with_reducible apply Del.there | with_reducible apply Sel.cons | with_reducible apply Sel.drop)); done) | (repeat (first | exact Sel.refl | exact Sel.nil | exact Del.here | apply Del.there | apply Sel.cons | apply Sel.drop))))
          · intro w M
            refine WL.loadR Try.isAgg22 rfl M (by first | ((repeat (first | with_reducible exact Has.here | with_reducible refine Has.there ?_)); done) | (repeat (first | exact Has.here | refine Has.there ?_))) rfl rfl ?_
            refine WL.loadR Try.isAgg22 rfl M (by first | ((repeat (first | with_reducible exact Has.here | with_reducible refine Has.there ?_)); done) | (repeat (first | exact Has.here | refine Has.there ?_))) rfl rfl ?_
            refine WL.gtr rfl rfl rfl ?_
            exact Chain.end_ rfl
          refine DG.end_ (by kernel_rfl) ?_
          refine WX.next ?_
          refine W.sub [(0, _), (3, _), (5, _), (40, _)] (.cons rfl (.cons rfl (.cons rfl (.cons rfl .nil)))) ?_
          refine W.ite rfl (fun c4 => ?_) (fun c4 => ?_)
          · refine W.seq ?_
            refine W.region ?_
            refine WL.move rfl rfl ?_
            refine WL.nilCheck rfl rfl ?_
            refine WL.fieldR (off := 3) Try.underlying102 rfl rfl Try.sizeOf100 rfl rfl rfl ?_
            refine WL.loadR Try.isAgg100 rfl M (by first | ((repeat (first | with_reducible exact Has.here | with_reducible refine Has.there ?_)); done) | (repeat (first | exact Has.here | refine Has.there ?_))) rfl rfl ?_
            refine WL.mapClear (E := earlyM) Try.underlying100 rfl M (by first | ((repeat (first | with_reducible exact Has.here | with_reducible refine Has.there ?_)); done) | (repeat (first | exact Has.here | refine Has.there ?_))) (by first | ((repeat (first | with_reducible exact Upd.here | with_reducible apply Upd.there)); done) | (repeat (first | exact Upd.here | apply Upd.there))) ?_
            intro w M
            refine WL.nil ?_
            refine WX.next ?_
            refine W.sub [(0, _), (3, _), (5, _)] (.cons rfl (.cons rfl (.cons rfl .nil))) ?_
            refine W.region ?_
            refine WL.move rfl rfl ?_
            refine WL.move rfl rfl ?_
            refine WL.fieldR (off := 0) Try.underlying36 rfl rfl Try.sizeOf22 rfl rfl rfl ?_
            refine WL.loadR Try.isAgg22 rfl M (by first | ((repeat (first | with_reducible exact Has.here | with_reducible refine Has.there ?_)); done) | (repeat (first | exact Has.here | refine Has.there ?_))) rfl rfl ?_
            refine WL.nilCheck rfl rfl ?_
            refine WL.fieldR (off := 1) Try.underlying102 rfl rfl Try.sizeOf22 rfl rfl rfl ?_
            refine WL.storeR Try.sizeOf22 rfl rfl rfl M (by first | ((repeat (first | with_reducible exact Has.here | with_reducible refine Has.there ?_)); done) | (repeat (first | exact Has.here | refine Has.there ?_))) (by repeat (first | exact SetAt.zero | apply SetAt.succ)) (by first | ((repeat (first | with_reducible exact Upd.here | with_reducible apply Upd.there)); done) | (repeat (first | exact Upd.here | apply Upd.there))) ?_
            intro w M
            refine WL.nilCheck rfl rfl ?_
            refine WL.fieldR (off := 2) Try.underlying102 rfl rfl Try.sizeOf22 rfl rfl rfl ?_
            refine WL.storeR Try.sizeOf22 rfl rfl rfl M (by first | ((repeat (first | with_reducible exact Has.here | with_reducible refine Has.there ?_)); done) | (repeat (first | exact Has.here | refine Has.there ?_))) (by repeat (first | exact SetAt.zero | apply SetAt.succ)) (by first | ((repeat (first | with_reducible exact Upd.here | with_reducible apply Upd.there)); done) | (repeat (first | exact Upd.here | apply Upd.there))) ?_
            intro w M
            refine WL.nil ?_
            replace M := M.starNil
            refine WX.join (([], qlife, 0)) (by (repeat' (first | exact envSub.nil | refine envSub.cons ?_ ?_)) <;> first | rfl | (refine congrArg some ?_; refine congrArg (Value.int _) ?_; first | omega | (dsimp only; omega)) | (simp; done) | (refine congrArg some ?_; dsimp only; congr 1; omega) | (simp; omega)) ⟨M.sel (by first | ((repeat (first | with_reducible exact Sel.refl | with_reducible exact Sel.nil | with_reducible exact Del.here | with_reducible apply Del.there | with_reducible apply Sel.cons | with_reducible apply Sel.drop)); done) | (repeat (first | exact Sel.refl | exact Sel.nil | exact Del.here | apply Del.there | apply Sel.cons | apply Sel.drop))), ⟨by rw [rh1, if_pos (by rw [hs, hr]; dsimp only; omega), hs, hr]; rfl, by simp, by simp, (fun p h => by cases h)⟩⟩
          · refine W.skip ?_
            have hb0 : ∀ p ∈ ms, p.2.l.length ≤ 1000 := fun p hp => hbody (p.1, p.2.l) (List.mem_map.2 ⟨p, hp, rfl⟩)
            refine WX.join ((ms, life, got)) (by (repeat' (first | exact envSub.nil | refine envSub.cons ?_ ?_)) <;> first | rfl | (refine congrArg some ?_; refine congrArg (Value.int _) ?_; first | omega | (dsimp only; omega)) | (simp; done) | (refine congrArg some ?_; dsimp only; congr 1; omega) | (simp; omega)) ⟨M.sel (by first | ((repeat (first | with_reducible exact Sel.refl | with_reducible exact Sel.nil | with_reducible exact Del.here | with_reducible apply Del.there | with_reducible apply Sel.cons | with_reducible apply Sel.drop)); done) | (repeat (first | exact Sel.refl | exact Sel.nil | exact Del.here | apply Del.there | apply Sel.cons | apply Sel.drop))), ⟨by rw [rh1, if_neg (by rw [hs, hr]; dsimp only; omega), hr], hgot, hnd, hb0⟩⟩
        clear M; rintro (⟨ms1, life1, got1⟩) w ⟨M, ⟨hr1, hg1, hn1, hb1⟩⟩; dsimp only at M hr1 hg1 hn1 hb1 ⊢
        refine W.sub [(0, _), (3, _), (5, _)] (.cons rfl (.cons rfl (.cons rfl .nil))) ?_
        have hwin1 : (rh1 r s).window = window := by rw [hr1]
        have hmg : mget (rh1 r s).m s.2.1 = (mget ms1 qseq).map OX.l := by rw [hr1, hs]; exact mget_mmap OX.l ms1 qseq
        have hgt : (rh1 r s).got = got1 := by rw [hr1]
        have hm1 : (rh1 r s).m = mmap OX.l ms1 := by rw [hr1]
        refine W.joint (fun (z : List (Nat × OX)) => [(0, .pointer (some ⟨g, 0, none⟩)), (5, .pointer (some ⟨g0_2, 0, none⟩))]) (fun j w => Mem w0 w ((fun z => Asr.row g0_2 36 [.int .u64 0, .int .u64 0, .bool false, .slice none 0 0] :: Asr.row g 102 [.int .i64 (window : Int), .int .u64 (life1 : Int), .int .u64 (got1 : Int), .map (some gm)] :: Asr.mp earlyM gm z :: Asr.star (z.map fun p => p.2.O) :: L') j) ∧ (fun z => rh2 (rh1 r s) s = mmap OX.l z ∧ got1 + z.length ≤ 1000000000 ∧ (z.map (·.1)).Nodup ∧ (∀ p ∈ z, p.2.l.length ≤ 1000)) j) ?_ ?_
        · refine W.seq ?_
          refine W.drawM (_) (by kernel_rfl) (fun j => [3, 5, 10].contains j) M Sel.refl ?_
          clear M; intro M
          apply DG.pure_ [0, 1, 2, 4] 9 rfl (by kernel_rfl) (by kernel_rfl)
          · intro w
            refine WL.move rfl rfl ?_
            refine WL.nilCheck rfl rfl ?_
            refine WL.fieldR (off := 3) Try.underlying102 rfl rfl Try.sizeOf100 rfl rfl rfl ?_
            refine WL.fieldR (off := 1) Try.underlying36 rfl rfl Try.sizeOf22 rfl rfl rfl ?_
            exact Chain.end_ rfl
          apply DG.take [3, 5, 6, 7] 5 rfl (by kernel_rfl) (by kernel_rfl) (M.sel (by first | ((repeat (first | with_reducible exact Sel.refl | with_reducible exact Sel.nil | with_reducible exact Del.here | with_reducible apply Del.there | with_reducible apply Sel.cons | with_reducible apply Sel.drop)); done) | (repeat (first | exact Sel.refl | exact Sel.nil | exact Del.here | apply Del.there | apply Sel.cons | apply Sel.drop))))
          · intro w M
            refine WL.loadR Try.isAgg100 rfl M (by first | ((repeat (first | with_reducible exact Has.here | with_reducible refine Has.there ?_)); done) | (repeat (first | exact Has.here | refine Has.there ?_))) rfl rfl ?_
            refine WL.loadR Try.isAgg22 rfl M (by first | ((repeat (first | with_reducible exact Has.here | with_reducible refine Has.there ?_)); done) | (repeat (first | exact Has.here | refine Has.there ?_))) rfl rfl ?_
            refine WL.lookup1 (E := earlyM) Try.underlying100 Try.underlying22 Try.zeroValue104 (fun _ => rfl) rfl rfl M (by first | ((repeat (first | with_reducible exact Has.here | with_reducible refine Has.there ?_)); done) | (repeat (first | exact Has.here | refine Has.there ?_))) rfl ?_
            refine WL.move rfl rfl ?_
            exact Chain.end_ rfl
          apply DG.pure_ [8, 9] 3 rfl (by kernel_rfl) (by kernel_rfl)
          · intro w
            refine WL.extractL rfl rfl rfl ?_
            refine WL.extractL rfl rfl rfl ?_
            exact Chain.end_ rfl
          refine DG.step 10 2 rfl (by kernel_rfl) ?_
          refine WL.alloc Try.zeroValue104 M rfl ?_
          intro g12_10 w M
          try simp only [Value.cells] at M
          try simp only [List.toList_toArray] at M
          refine DG.go (G := fun j => [3, 5, 10].contains j) (i := 10) (f' := 2) (done := [0, 1, 2, 4, 3, 5, 6, 7, 8, 9]) (fun _ => M.sel (by first | ((repeat (first | with_reducible exact Sel.refl | with_reducible exact Sel.nil | with_reducible exact Del.here | with_reducible apply Del.there | with_reducible apply Sel.cons | with_reducible apply Sel.drop)); done) | (repeat (first | exact Sel.refl | exact Sel.nil | exact Del.here | apply Del.there | apply Sel.cons | apply Sel.drop)))) ?_
          refine DG.step 11 1 rfl (by kernel_rfl) ?_
          refine WL.storeWA Try.sizeOf104 rfl rfl (by simp only [List.mem_singleton, forall_eq]; cases mget ms1 qseq <;> rfl) rfl rfl M (by first | ((repeat (first | with_reducible exact Upd.here | with_reducible apply Upd.there)); done) | (repeat (first | exact Upd.here | apply Upd.there))) ?_
          intro w M
          refine DG.go (G := fun j => [3, 5, 10].contains j) (i := 11) (f' := 1) (done := [0, 1, 2, 4, 3, 5, 6, 7, 8, 9, 10]) (fun h => by cases h) ?_
          apply DG.pure_ [12] 0 rfl (by kernel_rfl) (by kernel_rfl)
          · intro w
            refine WL.assign rfl rfl ?_
            exact Chain.end_ rfl
          refine DG.end_ (by kernel_rfl) ?_
          refine WX.next ?_
          refine W.sub [(0, _), (3, _), (5, _), (8, _)] (.cons rfl (.cons rfl (.cons rfl (.cons rfl .nil)))) ?_
          refine W.seq ?_
          refine W.drawM (_) (by kernel_rfl) (fun j => [4, 8, 12, 13, 14, 15, 16, 17, 18, 19, 20, 21, 22, 23].contains j) M Sel.refl ?_
          clear M; intro M
          apply DG.pure_ [0, 1] 24 rfl (by kernel_rfl) (by kernel_rfl)
          · intro w
            refine WL.move rfl rfl ?_
            refine WL.not rfl rfl ?_
            exact Chain.end_ rfl
          refine DG.know (t := 64) rfl (fun c5 => ?_) (fun c5 => ?_)
          · (try simp only [Bool.not_eq_true'] at c5); (try simp only [Bool.not_eq_false'] at c5); (try simp only [decide_eq_true_eq] at c5); (try simp only [decide_eq_false_iff_not] at c5)
            have hnone : mget ms1 qseq = none := by simpa using c5
            apply DG.pure_ [2, 3, 5, 6, 7] 19 rfl (by kernel_rfl) (by kernel_rfl)
            · intro w
              refine WL.move rfl rfl ?_
              refine WL.on rfl rfl ?_
              refine WL.fieldR (off := 1) Try.underlying36 rfl rfl Try.sizeOf22 rfl rfl rfl ?_
              refine WL.on rfl rfl ?_
              refine WL.move rfl rfl ?_
              refine WL.on rfl rfl ?_
              refine WL.nilCheck rfl rfl ?_
              refine WL.on rfl rfl ?_
              refine WL.fieldR (off := 2) Try.underlying102 rfl rfl Try.sizeOf22 rfl rfl rfl ?_
              exact Chain.end_ rfl
            apply DG.take [4, 8, 9, 10] 15 rfl (by kernel_rfl) (by kernel_rfl) (M.sel (by first | ((repeat (first | with_reducible exact Sel.refl | with_reducible exact Sel.nil | with_reducible exact Del.here | with_reducible apply Del.there | with_reducible apply Sel.cons | with_reducible apply Sel.drop)); done) | (repeat (first | exact Sel.refl | exact Sel.nil | exact Del.here | apply Del.there | apply Sel.cons | apply Sel.drop))))
            · intro w M
              refine WL.on rfl rfl ?_
              refine WL.loadR Try.isAgg22 rfl M (by first | ((repeat (first | with_reducible exact Has.here | with_reducible refine Has.there ?_)); done) | (repeat (first | exact Has.here | refine Has.there ?_))) rfl rfl ?_
              refine WL.on rfl rfl ?_
              refine WL.loadR Try.isAgg22 rfl M (by first | ((repeat (first | with_reducible exact Has.here | with_reducible refine Has.there ?_)); done) | (repeat (first | exact Has.here | refine Has.there ?_))) rfl rfl ?_
              refine WL.on rfl rfl ?_
              refine WL.gtr rfl rfl rfl ?_
              refine WL.pickT rfl rfl rfl ?_
              exact Chain.end_ rfl
            refine DG.knowP (t := 73) rfl (fun c6 => ?_) (fun c6 => ?_)
            · apply DG.pure_ [11] 14 rfl (by kernel_rfl) (by kernel_rfl)
              · intro w
                refine WL.move rfl rfl ?_
                exact Chain.end_ rfl
              apply DG.take [12, 13, 14, 15, 16, 17, 18, 19, 20, 21, 22, 23, 24, 25] 0 rfl (by kernel_rfl) (by kernel_rfl) (M.sel (by first | ((repeat (first | with_reducible exact Sel.refl | with_reducible exact Sel.nil | with_reducible exact Del.here | with_reducible apply Del.there | with_reducible apply Sel.cons | with_reducible apply Sel.drop)); done) | (repeat (first | exact Sel.refl | exact Sel.nil | exact Del.here | apply Del.there | apply Sel.cons | apply Sel.drop))))
              · intro w M
                refine WL.on rfl rfl ?_
                refine WL.fieldR (off := 1) Try.underlying36 rfl rfl Try.sizeOf22 rfl rfl rfl ?_
                refine WL.on rfl rfl ?_
                refine WL.loadR Try.isAgg22 rfl M (by first | ((repeat (first | with_reducible exact Has.here | with_reducible refine Has.there ?_)); done) | (repeat (first | exact Has.here | refine Has.there ?_))) rfl rfl ?_
                refine WL.on rfl rfl ?_
                refine WL.move rfl rfl ?_
                refine WL.on rfl rfl ?_
                refine WL.nilCheck rfl rfl ?_
                refine WL.on rfl rfl ?_
                refine WL.fieldR (off := 2) Try.underlying102 rfl rfl Try.sizeOf22 rfl rfl rfl ?_
                refine WL.on rfl rfl ?_
                refine WL.loadR Try.isAgg22 rfl M (by first | ((repeat (first | with_reducible exact Has.here | with_reducible refine Has.there ?_)); done) | (repeat (first | exact Has.here | refine Has.there ?_))) rfl rfl ?_
                refine WL.on rfl rfl ?_
                refine WL.sub' rfl rfl (show IntKind.u64.wrap ((qseq : Int) - (got1 : Int)) = ((qseq - got1 : Nat) : Int) by rw [wU64 (by omega)]; omega) rfl ?_
                refine WL.on rfl rfl ?_
                refine WL.move rfl rfl ?_
                refine WL.on rfl rfl ?_
                refine WL.nilCheck rfl rfl ?_
                refine WL.on rfl rfl ?_
                refine WL.fieldR (off := 0) Try.underlying102 rfl rfl Try.sizeOf3 rfl rfl rfl ?_
                refine WL.on rfl rfl ?_
                refine WL.loadR Try.isAgg3 rfl M (by first | ((repeat (first | with_reducible exact Has.here | with_reducible refine Has.there ?_)); done) | (repeat (first | exact Has.here | refine Has.there ?_))) rfl rfl ?_
                refine WL.on rfl rfl ?_
                refine WL.conv Try.underlying3 Try.underlying22 rfl (wU64 (by omega)) rfl ?_
                refine WL.on rfl rfl ?_
                refine WL.leq rfl rfl rfl ?_
                refine WL.pickT rfl rfl rfl ?_
                exact Chain.end_ rfl
              refine DG.end_ (by kernel_rfl) ?_
              refine WX.next ?_
              refine W.sub [(0, _), (3, _), (5, _), (88, _)] (.cons rfl (.cons rfl (.cons rfl (.cons rfl .nil)))) ?_
              refine W.ite rfl (fun c7 => ?_) (fun c7 => ?_)
              · refine W.drawM (_) (by kernel_rfl) (fun j => [3, 5, 6, 8, 9, 10].contains j) M Sel.refl ?_
                clear M; intro M
                apply DG.pure_ [0, 1, 2, 4, 7] 7 rfl (by kernel_rfl) (by kernel_rfl)
                · intro w
                  refine WL.move rfl rfl ?_
                  refine WL.nilCheck rfl rfl ?_
                  refine WL.fieldR (off := 3) Try.underlying102 rfl rfl Try.sizeOf100 rfl rfl rfl ?_
                  refine WL.fieldR (off := 1) Try.underlying36 rfl rfl Try.sizeOf22 rfl rfl rfl ?_
                  refine WL.fieldR (off := 3) Try.underlying36 rfl rfl Try.sizeOf34 rfl rfl rfl ?_
                  exact Chain.end_ rfl
                apply DG.take [3, 5, 8] 4 rfl (by kernel_rfl) (by kernel_rfl) (M.sel (by first | ((repeat (first | with_reducible exact Sel.refl | with_reducible exact Sel.nil | with_reducible exact Del.here | with_reducible apply Del.there | with_reducible apply Sel.cons | with_reducible apply Sel.drop)); done) | (repeat (first | exact Sel.refl | exact Sel.nil | exact Del.here | apply Del.there | apply Sel.cons | apply Sel.drop))))
                · intro w M
                  refine WL.loadR Try.isAgg100 rfl M (by first | ((repeat (first | with_reducible exact Has.here | with_reducible refine Has.there ?_)); done) | (repeat (first | exact Has.here | refine Has.there ?_))) rfl rfl ?_
                  refine WL.loadR Try.isAgg22 rfl M (by first | ((repeat (first | with_reducible exact Has.here | with_reducible refine Has.there ?_)); done) | (repeat (first | exact Has.here | refine Has.there ?_))) rfl rfl ?_
                  refine WL.loadR Try.isAgg34 rfl M (by first | ((repeat (first | with_reducible exact Has.here | with_reducible refine Has.there ?_)); done) | (repeat (first | exact Has.here | refine Has.there ?_))) rfl rfl ?_
                  exact Chain.end_ rfl
                refine DG.step 6 3 rfl (by kernel_rfl) ?_
                refine WL.buildB (es := []) Try.elem5 M rfl rfl (by exact BytesOf.nil) (by rfl) rfl rfl ?_
                intro g14_6 w M
                refine DG.go (G := fun j => [3, 5, 6, 8, 9, 10].contains j) (i := 6) (f' := 3) (done := [0, 1, 2, 4, 7, 3, 5, 8]) (fun _ => M.sel (by first | ((repeat (first | with_reducible exact Sel.refl | with_reducible exact Sel.nil | with_reducible exact Del.here | with_reducible apply Del.there | with_reducible apply Sel.cons | with_reducible apply Sel.drop)); done) | (repeat (first | exact Sel.refl | exact Sel.nil | exact Del.here | apply Del.there | apply Sel.cons | apply Sel.drop)))) ?_
                refine DG.step 9 2 rfl (by kernel_rfl) ?_
                refine WL.appendBN Try.elem5 rfl rfl M (by first | ((repeat (first | with_reducible exact Del.here | with_reducible apply Del.there)); done) | (repeat (first | exact Del.here | apply Del.there))) (by first | first | with_reducible assumption | with_reducible exact RdB.mem (by with_reducible assumption) M | exact M.rdB (by first | ((repeat (first | with_reducible exact Has.here | with_reducible refine Has.there ?_)); done) | (repeat (first | exact Has.here | refine Has.there ?_))) | exact RdH.at (by assumption) (M.sel (by first | ((repeat (first | with_reducible exact Sel.refl | with_reducible exact Sel.nil | with_reducible exact Del.here | with_reducible apply Del.there | with_reducible apply Sel.cons | with_reducible apply Sel.drop)); done) | (repeat (first | exact Sel.refl | exact Sel.nil | exact Del.here | apply Del.there | apply Sel.cons | apply Sel.drop)))) | exact M.rdLit' (by first | ((repeat (first | with_reducible exact Has.here | with_reducible refine Has.there ?_)); done) | (repeat (first | exact Has.here | refine Has.there ?_))) | exact M.rdLent (by first | ((repeat (first | with_reducible exact Has.here | with_reducible refine Has.there ?_)); done) | (repeat (first | exact Has.here | refine Has.there ?_))) | exact RdB.nil _ _ | exact RdB.sub (by first | with_reducible assumption | with_reducible exact RdB.mem (by with_reducible assumption) M | exact M.rdB (by first | ((repeat (first | with_reducible exact Has.here | with_reducible refine Has.there ?_)); done) | (repeat (first | exact Has.here | refine Has.there ?_))) | exact RdH.at (by assumption) (M.sel (by first | ((repeat (first | with_reducible exact Sel.refl | with_reducible exact Sel.nil | with_reducible exact Del.here | with_reducible apply Del.there | with_reducible apply Sel.cons | with_reducible apply Sel.drop)); done) | (repeat (first | exact Sel.refl | exact Sel.nil | exact Del.here | apply Del.there | apply Sel.cons | apply Sel.drop)))) | exact M.rdLit' (by first | ((repeat (first | with_reducible exact Has.here | with_reducible refine Has.there ?_)); done) | (repeat (first | exact Has.here | refine Has.there ?_))) | exact M.rdLent (by first | ((repeat (first | with_reducible exact Has.here | with_reducible refine Has.there ?_)); done) | (repeat (first | exact Has.here | refine Has.there ?_))) | exact RdB.nil _ _) (by omega) (by omega) | exact RdB.pre' (by first | with_reducible assumption | with_reducible exact RdB.mem (by with_reducible assumption) M | exact M.rdB (by first | ((repeat (first | with_reducible exact Has.here | with_reducible refine Has.there ?_)); done) | (repeat (first | exact Has.here | refine Has.there ?_))) | exact RdH.at (by assumption) (M.sel (by first | ((repeat (first | with_reducible exact Sel.refl | with_reducible exact Sel.nil | with_reducible exact Del.here | with_reducible apply Del.there | with_reducible apply Sel.cons | with_reducible apply Sel.drop)); done) | (repeat (first | exact Sel.refl | exact Sel.nil | exact Del.here | apply Del.there | apply Sel.cons | apply Sel.drop)))) | exact M.rdLit' (by first | ((repeat (first | with_reducible exact Has.here | with_reducible refine Has.there ?_)); done) | (repeat (first | exact Has.here | refine Has.there ?_))) | exact M.rdLent (by first | ((repeat (first | with_reducible exact Has.here | with_reducible refine Has.there ?_)); done) | (repeat (first | exact Has.here | refine Has.there ?_))) | exact RdB.nil _ _) (by omega) | exact RdB.suf (by first | with_reducible assumption | with_reducible exact RdB.mem (by with_reducible assumption) M | exact M.rdB (by first | ((repeat (first | with_reducible exact Has.here | with_reducible refine Has.there ?_)); done) | (repeat (first | exact Has.here | refine Has.there ?_))) | exact RdH.at (by assumption) (M.sel (by first | ((repeat (first | with_reducible exact Sel.refl | with_reducible exact Sel.nil | with_reducible exact Del.here | with_reducible apply Del.there | with_reducible apply Sel.cons | with_reducible apply Sel.drop)); done) | (repeat (first | exact Sel.refl | exact Sel.nil | exact Del.here | apply Del.there | apply Sel.cons | apply Sel.drop)))) | exact M.rdLit' (by first | ((repeat (first | with_reducible exact Has.here | with_reducible refine Has.there ?_)); done) | (repeat (first | exact Has.here | refine Has.there ?_))) | exact M.rdLent (by first | ((repeat (first | with_reducible exact Has.here | with_reducible refine Has.there ?_)); done) | (repeat (first | exact Has.here | refine Has.there ?_))) | exact RdB.nil _ _) (by omega)) rfl rfl (by first | omega | (simp; done) | (simp; omega)) rfl ?_
                intro A14_9 cap14_9 w M
                refine DG.go (G := fun j => [3, 5, 6, 8, 9, 10].contains j) (i := 9) (f' := 2) (done := [0, 1, 2, 4, 7, 3, 5, 8, 6]) (fun _ => M.sel (by first | ((repeat (first | with_reducible exact Sel.refl | with_reducible exact Sel.nil | with_reducible exact Del.here | with_reducible apply Del.there | with_reducible apply Sel.cons | with_reducible apply Sel.drop)); done) | (repeat (first | exact Sel.refl | exact Sel.nil | exact Del.here | apply Del.there | apply Sel.cons | apply Sel.drop)))) ?_
                apply DG.take [10] 1 rfl (by kernel_rfl) (by kernel_rfl) (M.sel (by first | ((repeat (first | with_reducible exact Sel.refl | with_reducible exact Sel.nil | with_reducible exact Del.here | with_reducible apply Del.there | with_reducible apply Sel.cons | with_reducible apply Sel.drop)); done) | (repeat (first | exact Sel.refl | exact Sel.nil | exact Del.here | apply Del.there | apply Sel.cons | apply Sel.drop))))
                · intro w M
                  refine WL.buildP (places := #[(0, 1)]) Try.underlying104 Try.zeroValue104 (fun _ => by simp [Try.sizeOf34]) rfl (by repeat (first | exact Puts.nil | exact SetAt.zero | apply SetAt.succ | apply Puts.cons rfl rfl)) rfl ?_
                  exact Chain.end_ rfl
                refine DG.step 11 0 rfl (by kernel_rfl) ?_
                refine WL.mapUpdate (E := earlyM) (a := (⟨A14_9, cap14_9, ql⟩ : OX)) Try.underlying100 Try.underlying22 rfl rfl rfl M (by first | ((repeat (first | with_reducible exact Has.here | with_reducible refine Has.there ?_)); done) | (repeat (first | exact Has.here | refine Has.there ?_))) (by first | ((repeat (first | with_reducible exact Upd.here | with_reducible apply Upd.there)); done) | (repeat (first | exact Upd.here | apply Upd.there))) ?_
                intro w M
                refine DG.go (G := fun j => [3, 5, 6, 8, 9, 10].contains j) (i := 11) (f' := 0) (done := [0, 1, 2, 4, 7, 3, 5, 8, 6, 9, 10]) (fun h => by cases h) ?_
                refine DG.end_ (by kernel_rfl) ?_
                skip
                have q1 : rh2 (rh1 r s) s = mmap OX.l (mput ms1 qseq (⟨A14_9, cap14_9, ql⟩ : OX)) := by
                  unfold rh2
                  rw [if_pos ⟨by rw [hmg, hnone]; rfl, by rw [hgt, hs]; dsimp only; omega, by rw [hgt, hwin1, hs]; dsimp only; omega⟩, hm1, hs]
                  exact mput_mmap OX.l ms1 qseq ⟨A14_9, cap14_9, ql⟩
                have q2 : (mput ms1 qseq (⟨A14_9, cap14_9, ql⟩ : OX)) = ms1 ++ [(qseq, ⟨A14_9, cap14_9, ql⟩)] := mput_new hnone
                have q3 := mput_nodup hn1 qseq (⟨A14_9, cap14_9, ql⟩ : OX)
                rw [q2] at q1 q3 M
                have q4 : ∀ p ∈ ms1 ++ [(qseq, (⟨A14_9, cap14_9, ql⟩ : OX))], p.2.l.length ≤ 1000 := by
                  intro p hp
                  rcases List.mem_append.1 hp with hp | hp
                  · exact hb1 p hp
                  · rw [List.mem_singleton] at hp; subst hp; exact hseg
                replace M : Mem w0 w (Asr.star ((ms1 ++ [(qseq, (⟨A14_9, cap14_9, ql⟩ : OX))]).map fun p => p.2.O) :: Asr.row g0_2 36 [.int .u64 0, .int .u64 0, .bool false, .slice none 0 0] :: Asr.row g 102 [.int .i64 (window : Int), .int .u64 (life1 : Int), .int .u64 (got1 : Int), .map (some gm)] :: Asr.mp earlyM gm (ms1 ++ [(qseq, (⟨A14_9, cap14_9, ql⟩ : OX))]) :: L') := by
                  rw [List.map_append]
                  exact Mem.starSnoc (A := OX.O ⟨A14_9, cap14_9, ql⟩) (M.sel (K := Asr.own 5 1 A14_9 ql.length cap14_9 (bs ql) :: Asr.star (ms1.map fun p => p.2.O) :: Asr.row g0_2 36 [.int .u64 0, .int .u64 0, .bool false, .slice none 0 0] :: Asr.row g 102 [.int .i64 (window : Int), .int .u64 (life1 : Int), .int .u64 (got1 : Int), .map (some gm)] :: Asr.mp earlyM gm (ms1 ++ [(qseq, (⟨A14_9, cap14_9, ql⟩ : OX))]) :: L') (by first | ((repeat (first | with_reducible exact Sel.refl | with_reducible exact Sel.nil | with_reducible exact Del.here | with_reducible apply Del.there | with_reducible apply Sel.cons | with_reducible apply Sel.drop)); done) | (repeat (first | exact Sel.refl | exact Sel.nil | exact Del.here | apply Del.there | apply Sel.cons | apply Sel.drop))))
                refine WX.join ((ms1 ++ [(qseq, ⟨A14_9, cap14_9, ql⟩)])) (by (repeat' (first | exact envSub.nil | refine envSub.cons ?_ ?_)) <;> first | rfl | (refine congrArg some ?_; refine congrArg (Value.int _) ?_; first | omega | (dsimp only; omega)) | (simp; done) | (refine congrArg some ?_; dsimp only; congr 1; omega) | (simp; omega)) ⟨M.sel (by first | ((repeat (first | with_reducible exact Sel.refl | with_reducible exact Sel.nil | with_reducible exact Del.here | with_reducible apply Del.there | with_reducible apply Sel.cons | with_reducible apply Sel.drop)); done) | (repeat (first | exact Sel.refl | exact Sel.nil | exact Del.here | apply Del.there | apply Sel.cons | apply Sel.drop))), ⟨q1, by simp; omega, q3, q4⟩⟩
              · refine W.skip ?_
                refine WX.join (ms1) (by (repeat' (first | exact envSub.nil | refine envSub.cons ?_ ?_)) <;> first | rfl | (refine congrArg some ?_; refine congrArg (Value.int _) ?_; first | omega | (dsimp only; omega)) | (simp; done) | (refine congrArg some ?_; dsimp only; congr 1; omega) | (simp; omega)) ⟨M.sel (by first | ((repeat (first | with_reducible exact Sel.refl | with_reducible exact Sel.nil | with_reducible exact Del.here | with_reducible apply Del.there | with_reducible apply Sel.cons | with_reducible apply Sel.drop)); done) | (repeat (first | exact Sel.refl | exact Sel.nil | exact Del.here | apply Del.there | apply Sel.cons | apply Sel.drop))), ⟨by unfold rh2; rw [if_neg (fun h => by have h2 := h.2.2; rw [hgt, hwin1, hs] at h2; dsimp only at h2; omega), hm1], by omega, hn1, hb1⟩⟩
            · apply DG.pure_ [11] 14 rfl (by kernel_rfl) (by kernel_rfl)
              · intro w
                refine WL.move rfl rfl ?_
                exact Chain.end_ rfl
              apply DG.take [12, 13, 14, 15, 16, 17, 18, 19, 20, 21, 22, 23, 24, 25] 0 rfl (by kernel_rfl) (by kernel_rfl) (M.sel (by first | ((repeat (first | with_reducible exact Sel.refl | with_reducible exact Sel.nil | with_reducible exact Del.here | with_reducible apply Del.there | with_reducible apply Sel.cons | with_reducible apply Sel.drop)); done) | (repeat (first | exact Sel.refl | exact Sel.nil | exact Del.here | apply Del.there | apply Sel.cons | apply Sel.drop))))
              · intro w M
                refine WL.off rfl rfl rfl rfl ?_
                refine WL.off rfl rfl rfl rfl ?_
                refine WL.off rfl rfl rfl rfl ?_
                refine WL.off rfl rfl rfl rfl ?_
                refine WL.off rfl rfl rfl rfl ?_
                refine WL.off rfl rfl rfl rfl ?_
                refine WL.off rfl rfl rfl rfl ?_
                refine WL.off rfl rfl rfl rfl ?_
                refine WL.off rfl rfl rfl rfl ?_
                refine WL.off rfl rfl rfl rfl ?_
                refine WL.off rfl rfl rfl rfl ?_
                refine WL.off rfl rfl rfl rfl ?_
                refine WL.off rfl rfl rfl rfl ?_
                refine WL.pickF rfl rfl rfl ?_
                exact Chain.end_ rfl
              refine DG.end_ (by kernel_rfl) ?_
              refine WX.next ?_
              refine W.sub [(0, _), (3, _), (5, _), (88, _)] (.cons rfl (.cons rfl (.cons rfl (.cons rfl .nil)))) ?_
              refine W.condF rfl ?_
              refine W.skip ?_
              refine WX.join (ms1) (by (repeat' (first | exact envSub.nil | refine envSub.cons ?_ ?_)) <;> first | rfl | (refine congrArg some ?_; refine congrArg (Value.int _) ?_; first | omega | (dsimp only; omega)) | (simp; done) | (refine congrArg some ?_; dsimp only; congr 1; omega) | (simp; omega)) ⟨M.sel (by first | ((repeat (first | with_reducible exact Sel.refl | with_reducible exact Sel.nil | with_reducible exact Del.here | with_reducible apply Del.there | with_reducible apply Sel.cons | with_reducible apply Sel.drop)); done) | (repeat (first | exact Sel.refl | exact Sel.nil | exact Del.here | apply Del.there | apply Sel.cons | apply Sel.drop))), ⟨by unfold rh2; rw [if_neg (fun h => by have h2 := h.2.1; rw [hgt, hs] at h2; dsimp only at h2; omega), hm1], by omega, hn1, hb1⟩⟩
          · (try simp only [Bool.not_eq_true'] at c5); (try simp only [Bool.not_eq_false'] at c5); (try simp only [decide_eq_true_eq] at c5); (try simp only [decide_eq_false_iff_not] at c5)
            have hnn : ¬ (mget (rh1 r s).m s.2.1 = none ∧ (rh1 r s).got < s.2.1 ∧ s.2.1 - (rh1 r s).got ≤ (rh1 r s).window) := by
              intro h
              have h1 := h.1
              rw [hmg] at h1
              cases hq : mget ms1 qseq with
              | none => rw [hq] at c5; simp at c5
              | some a => rw [hq] at h1; cases h1
            apply DG.pure_ [2, 3, 5, 6, 7] 19 rfl (by kernel_rfl) (by kernel_rfl)
            · intro w
              refine WL.move rfl rfl ?_
              refine WL.off rfl rfl rfl rfl ?_
              refine WL.off rfl rfl rfl rfl ?_
              refine WL.off rfl rfl rfl rfl ?_
              refine WL.off rfl rfl rfl rfl ?_
              exact Chain.end_ rfl
            apply DG.take [4, 8, 9, 10] 15 rfl (by kernel_rfl) (by kernel_rfl) (M.sel (by first | ((repeat (first | with_reducible exact Sel.refl | with_reducible exact Sel.nil | with_reducible exact Del.here | with_reducible apply Del.there | with_reducible apply Sel.cons | with_reducible apply Sel.drop)); done) | (repeat (first | exact Sel.refl | exact Sel.nil | exact Del.here | apply Del.there | apply Sel.cons | apply Sel.drop))))
            · intro w M
              refine WL.off rfl rfl rfl rfl ?_
              refine WL.off rfl rfl rfl rfl ?_
              refine WL.off rfl rfl rfl rfl ?_
              refine WL.pickF rfl rfl rfl ?_
              exact Chain.end_ rfl
            apply DG.pure_ [11] 14 rfl (by kernel_rfl) (by kernel_rfl)
            · intro w
              refine WL.move rfl rfl ?_
              exact Chain.end_ rfl
            apply DG.take [12, 13, 14, 15, 16, 17, 18, 19, 20, 21, 22, 23, 24, 25] 0 rfl (by kernel_rfl) (by kernel_rfl) (M.sel (by first | ((repeat (first | with_reducible exact Sel.refl | with_reducible exact Sel.nil | with_reducible exact Del.here | with_reducible apply Del.there | with_reducible apply Sel.cons | with_reducible apply Sel.drop)); done) | (repeat (first | exact Sel.refl | exact Sel.nil | exact Del.here | apply Del.there | apply Sel.cons | apply Sel.drop))))
            · intro w M
              refine WL.off rfl rfl rfl rfl ?_
              refine WL.off rfl rfl rfl rfl ?_
              refine WL.off rfl rfl rfl rfl ?_
              refine WL.off rfl rfl rfl rfl ?_
              refine WL.off rfl rfl rfl rfl ?_
              refine WL.off rfl rfl rfl rfl ?_
              refine WL.off rfl rfl rfl rfl ?_
              refine WL.off rfl rfl rfl rfl ?_
              refine WL.off rfl rfl rfl rfl ?_
              refine WL.off rfl rfl rfl rfl ?_
              refine WL.off rfl rfl rfl rfl ?_
              refine WL.off rfl rfl rfl rfl ?_
              refine WL.off rfl rfl rfl rfl ?_
              refine WL.pickF rfl rfl rfl ?_
              exact Chain.end_ rfl
            refine DG.end_ (by kernel_rfl) ?_
            refine WX.next ?_
            refine W.sub [(0, _), (3, _), (5, _), (88, _)] (.cons rfl (.cons rfl (.cons rfl (.cons rfl .nil)))) ?_
            refine W.condF rfl ?_
            refine W.skip ?_
            refine WX.join (ms1) (by (repeat' (first | exact envSub.nil | refine envSub.cons ?_ ?_)) <;> first | rfl | (refine congrArg some ?_; refine congrArg (Value.int _) ?_; first | omega | (dsimp only; omega)) | (simp; done) | (refine congrArg some ?_; dsimp only; congr 1; omega) | (simp; omega)) ⟨M.sel (by first | ((repeat (first | with_reducible exact Sel.refl | with_reducible exact Sel.nil | with_reducible exact Del.here | with_reducible apply Del.there | with_reducible apply Sel.cons | with_reducible apply Sel.drop)); done) | (repeat (first | exact Sel.refl | exact Sel.nil | exact Del.here | apply Del.there | apply Sel.cons | apply Sel.drop))), ⟨by unfold rh2; rw [if_neg hnn, hm1], by omega, hn1, hb1⟩⟩
        clear M; rintro (ms2) w ⟨M, ⟨hr2, hg2, hn2, hb2⟩⟩; dsimp only at M hr2 hg2 hn2 hb2 ⊢
        refine W.sub [(0, _), (5, _)] (.cons rfl (.cons rfl .nil)) ?_
        refine W.seq ?_
        refine W.region ?_
        refine WL.assign rfl rfl ?_
        refine WL.nil ?_
        refine WX.next ?_
        refine W.sub [(0, _), (5, _), (9, _)] (.cons rfl (.cons rfl (.cons rfl .nil))) ?_
        refine W.block ?_
        refine W.loop (ι := (List (Nat × OX) × Nat × List OX) × (Option Addr × Nat)) (fun z => [(0, .pointer (some ⟨g, 0, none⟩)), (5, .pointer (some ⟨g0_2, 0, none⟩)), (9, .slice z.2.1 z.1.2.2.length z.2.2)]) (fun i w => Mem w0 w ((fun z => Asr.row g0_2 36 [.int .u64 0, .int .u64 0, .bool false, .slice none 0 0] :: Asr.row g 102 [.int .i64 (window : Int), .int .u64 (life1 : Int), .int .u64 (z.1.2.1 : Int), .map (some gm)] :: Asr.mp earlyM gm z.1.1 :: Asr.star (z.1.1.map fun p => p.2.O) :: Asr.lst oxE z.2.1 z.2.2 z.1.2.2 :: Asr.star (z.1.2.2.map OX.O) :: L') i) ∧ (fun z => z.1.2.1 + z.1.1.length ≤ 1000000000 ∧ z.1.2.2.length + z.1.1.length ≤ 1000000000 ∧ (z.1.1.map (·.1)).Nodup ∧ (∀ p ∈ z.1.1, p.2.l.length ≤ 1000) ∧ (∀ o ∈ z.1.2.2, o.l.length ≤ 1000) ∧ rhD r s = ((drain (z.1.1.length + 1) z.1.2.1 (mmap OX.l z.1.1)).1, (drain (z.1.1.length + 1) z.1.2.1 (mmap OX.l z.1.1)).2.1, z.1.2.2.map OX.l ++ (drain (z.1.1.length + 1) z.1.2.1 (mmap OX.l z.1.1)).2.2)) i) (fun z => z.1.1.length) (((ms2, got1, []), (none, 0))) (by (repeat' (first | exact envSub.nil | refine envSub.cons ?_ ?_)) <;> first | rfl | (refine congrArg some ?_; refine congrArg (Value.int _) ?_; first | omega | (dsimp only; omega)) | (simp; done) | (refine congrArg some ?_; dsimp only; congr 1; omega) | (simp; omega)) ⟨(Mem.nilOwn (M.starNil) _ _).sel (by first | ((repeat (first | with_reducible exact Sel.refl | with_reducible exact Sel.nil | with_reducible exact Del.here | with_reducible apply Del.there | with_reducible apply Sel.cons | with_reducible apply Sel.drop)); done) | (repeat (first | exact Sel.refl | exact Sel.nil | exact Del.here | apply Del.there | apply Sel.cons | apply Sel.drop))), ⟨hg2, by dsimp only; simp; omega, hn2, hb2, (fun o h => by cases h), by unfold rhD; rw [hr2, hgt, mmap_length]; simp⟩⟩ ?_
        clear M; rintro (⟨⟨zs, zg, outs⟩, Ao, co⟩) w ⟨M, ⟨hzg, hzo, hzn, hzb, hob, hzd⟩⟩; dsimp only at M hzg hzo hzn hzb hob hzd ⊢
        refine W.sub [(0, _), (5, _), (9, _)] (.cons rfl (.cons rfl (.cons rfl .nil))) ?_
        refine W.block ?_
        refine W.seq ?_
        refine W.drawM (_) (by kernel_rfl) (fun j => [3, 7, 8, 13].contains j) M Sel.refl ?_
        clear M; intro M
        apply DG.pure_ [0, 1, 2, 4, 5, 6] 10 rfl (by kernel_rfl) (by kernel_rfl)
        · intro w
          refine WL.move rfl rfl ?_
          refine WL.nilCheck rfl rfl ?_
          refine WL.fieldR (off := 3) Try.underlying102 rfl rfl Try.sizeOf100 rfl rfl rfl ?_
          refine WL.move rfl rfl ?_
          refine WL.nilCheck rfl rfl ?_
          refine WL.fieldR (off := 2) Try.underlying102 rfl rfl Try.sizeOf22 rfl rfl rfl ?_
          exact Chain.end_ rfl
        apply DG.take [3, 7, 8, 9, 10] 5 rfl (by kernel_rfl) (by kernel_rfl) (M.sel (by first | ((repeat (first | with_reducible exact Sel.refl | with_reducible exact Sel.nil | with_reducible exact Del.here | with_reducible apply Del.there | with_reducible apply Sel.cons | with_reducible apply Sel.drop)); done) | (repeat (first | exact Sel.refl | exact Sel.nil | exact Del.here | apply Del.there | apply Sel.cons | apply Sel.drop))))
        · intro w M
          refine WL.loadR Try.isAgg100 rfl M (by first | ((repeat (first | with_reducible exact Has.here | with_reducible refine Has.there ?_)); done) | (repeat (first | exact Has.here | refine Has.there ?_))) rfl rfl ?_
          refine WL.loadR Try.isAgg22 rfl M (by first | ((repeat (first | with_reducible exact Has.here | with_reducible refine Has.there ?_)); done) | (repeat (first | exact Has.here | refine Has.there ?_))) rfl rfl ?_
          refine WL.add rfl rfl (show IntKind.u64.wrap ((zg : Int) + 1) = ((zg + 1 : Nat) : Int) by rw [wU64 (by omega)]; omega) rfl ?_
          refine WL.lookup1 (E := earlyM) Try.underlying100 Try.underlying22 Try.zeroValue104 (fun _ => rfl) rfl rfl M (by first | ((repeat (first | with_reducible exact Has.here | with_reducible refine Has.there ?_)); done) | (repeat (first | exact Has.here | refine Has.there ?_))) rfl ?_
          refine WL.move rfl rfl ?_
          exact Chain.end_ rfl
        apply DG.pure_ [11, 12] 3 rfl (by kernel_rfl) (by kernel_rfl)
        · intro w
          refine WL.extractL rfl rfl rfl ?_
          refine WL.extractL rfl rfl rfl ?_
          exact Chain.end_ rfl
        refine DG.step 13 2 rfl (by kernel_rfl) ?_
        refine WL.alloc Try.zeroValue104 M rfl ?_
        intro g16_13 w M
        try simp only [Value.cells] at M
        try simp only [List.toList_toArray] at M
        refine DG.go (G := fun j => [3, 7, 8, 13].contains j) (i := 13) (f' := 2) (done := [0, 1, 2, 4, 5, 6, 3, 7, 8, 9, 10, 11, 12]) (fun _ => M.sel (by first | ((repeat (first | with_reducible exact Sel.refl | with_reducible exact Sel.nil | with_reducible exact Del.here | with_reducible apply Del.there | with_reducible apply Sel.cons | with_reducible apply Sel.drop)); done) | (repeat (first | exact Sel.refl | exact Sel.nil | exact Del.here | apply Del.there | apply Sel.cons | apply Sel.drop)))) ?_
        refine DG.step 14 1 rfl (by kernel_rfl) ?_
        refine WL.storeWA Try.sizeOf104 rfl rfl (by simp only [List.mem_singleton, forall_eq]; cases mget zs (zg + 1) <;> rfl) rfl rfl M (by first | ((repeat (first | with_reducible exact Upd.here | with_reducible apply Upd.there)); done) | (repeat (first | exact Upd.here | apply Upd.there))) ?_
        intro w M
        refine DG.go (G := fun j => [3, 7, 8, 13].contains j) (i := 14) (f' := 1) (done := [0, 1, 2, 4, 5, 6, 3, 7, 8, 9, 10, 11, 12, 13]) (fun h => by cases h) ?_
        apply DG.pure_ [15] 0 rfl (by kernel_rfl) (by kernel_rfl)
        · intro w
          refine WL.assign rfl rfl ?_
          exact Chain.end_ rfl
        refine DG.end_ (by kernel_rfl) ?_
        refine WX.next ?_
        refine W.sub [(0, _), (5, _), (9, _), (10, _), (11, _)] (.cons rfl (.cons rfl (.cons rfl (.cons rfl (.cons rfl .nil))))) ?_
        refine W.seq ?_
        refine W.seq ?_
        refine W.region ?_
        refine WL.move rfl rfl ?_
        refine WL.not rfl rfl ?_
        refine WL.nil ?_
        refine WX.next ?_
        refine W.sub [(0, _), (5, _), (9, _), (10, _), (114, _)] (.cons rfl (.cons rfl (.cons rfl (.cons rfl (.cons rfl .nil))))) ?_
        refine W.cond rfl (fun c8 => ?_) (fun c8 => ?_)
        · (try simp only [Bool.not_eq_true'] at c8); (try simp only [Bool.not_eq_false'] at c8); (try simp only [decide_eq_true_eq] at c8); (try simp only [decide_eq_false_iff_not] at c8)
          have hz0 : mget zs (zg + 1) = none := by simpa using c8
          have hdn : rhD r s = (zg, mmap OX.l zs, outs.map OX.l) := by
            rw [hzd, drain_none (by rw [mget_mmap, hz0]; rfl)]
            simp
          refine W.seq ?_
          refine W.drawM (_) (by kernel_rfl) (fun j => [4, 8].contains j) M Sel.refl ?_
          clear M; intro M
          apply DG.pure_ [0, 1, 2, 3, 5, 6, 7, 10] 5 rfl (by kernel_rfl) (by kernel_rfl)
          · intro w
            refine WL.move rfl rfl ?_
            refine WL.move rfl rfl ?_
            refine WL.nilCheck rfl rfl ?_
            refine WL.fieldR (off := 1) Try.underlying102 rfl rfl Try.sizeOf22 rfl rfl rfl ?_
            refine WL.move rfl rfl ?_
            refine WL.nilCheck rfl rfl ?_
            refine WL.fieldR (off := 2) Try.underlying102 rfl rfl Try.sizeOf22 rfl rfl rfl ?_
            refine WL.assign rfl rfl ?_
            exact Chain.end_ rfl
          apply DG.take [4, 8, 9] 2 rfl (by kernel_rfl) (by kernel_rfl) (M.sel (by first | ((repeat (first | with_reducible exact Sel.refl | with_reducible exact Sel.nil | with_reducible exact Del.here | with_reducible apply Del.there | with_reducible apply Sel.cons | with_reducible apply Sel.drop)); done) | (repeat (first | exact Sel.refl | exact Sel.nil | exact Del.here | apply Del.there | apply Sel.cons | apply Sel.drop))))
          · intro w M
            refine WL.loadR Try.isAgg22 rfl M (by first | ((repeat (first | with_reducible exact Has.here | with_reducible refine Has.there ?_)); done) | (repeat (first | exact Has.here | refine Has.there ?_))) rfl rfl ?_
            refine WL.loadR Try.isAgg22 rfl M (by first | ((repeat (first | with_reducible exact Has.here | with_reducible refine Has.there ?_)); done) | (repeat (first | exact Has.here | refine Has.there ?_))) rfl rfl ?_
            refine WL.buildP (places := #[(0, 1), (1, 1), (2, 1), (3, 1)]) Try.underlying36 Try.zeroValue36 (fun _ => by simp [Try.sizeOf22, Try.sizeOf22, Try.sizeOf4, Try.sizeOf34]) rfl (by repeat (first | exact Puts.nil | exact SetAt.zero | apply SetAt.succ | apply Puts.cons rfl rfl)) rfl ?_
            exact Chain.end_ rfl
          refine DG.step 11 1 rfl (by kernel_rfl) ?_
          refine WL.storeWA Try.sizeOf36 rfl rfl (by repeat (first | exact oneNil | refine oneCons rfl ?_)) rfl rfl M (by first | ((repeat (first | with_reducible exact Upd.here | with_reducible apply Upd.there)); done) | (repeat (first | exact Upd.here | apply Upd.there))) ?_
          intro w M
          refine DG.go (G := fun j => [4, 8].contains j) (i := 11) (f' := 1) (done := [0, 1, 2, 3, 5, 6, 7, 10, 4, 8, 9]) (fun h => by cases h) ?_
          apply DG.pure_ [12] 0 rfl (by kernel_rfl) (by kernel_rfl)
          · intro w
            refine WL.assign rfl rfl ?_
            exact Chain.end_ rfl
          refine DG.end_ (by kernel_rfl) ?_
          refine WX.next ?_
          refine W.sub [(4, _), (5, _), (6, _)] (.cons rfl (.cons rfl (.cons rfl .nil))) ?_
          refine W.ret ?_
          refine WX.thenRet ?_
          refine WX.blockRet ?_
          refine WX.thenRet ?_
          refine WX.blockRet ?_
          refine WX.retTCT (cs := [_, _, _, _]) rfl rfl rfl rfl Try.isAgg36 (by exact Try.sizeOf36) (M.cellsH (by first | ((repeat (first | with_reducible exact Has.here | with_reducible refine Has.there ?_)); done) | (repeat (first | exact Has.here | refine Has.there ?_)))) ?_
          refine ⟨⟨g, gm, zs, window, life1, zg⟩, Ao, co, outs, ?_, rfl, ?_, ?_, hob, ?_⟩
          · unfold rhA rhS
            rw [if_pos he, if_pos he, he, hdn, hr1]
            rfl
          · unfold rhS
            rw [if_pos he, hdn, hr1]
          · unfold rhO
            rw [if_pos he, hdn]
          · exact Mem.f2 (Mem.f2 (Mem.star3 (M.sel (K := Asr.row g 102 [.int .i64 (window : Int), .int .u64 (life1 : Int), .int .u64 (zg : Int), .map (some gm)] :: Asr.mp earlyM gm zs :: Asr.star (zs.map fun p : Nat × OX => p.2.O) :: Asr.lst oxE Ao co outs :: Asr.star (outs.map OX.O) :: L') (by first | ((repeat (first | with_reducible exact Sel.refl | with_reducible exact Sel.nil | with_reducible exact Del.here | with_reducible apply Del.there | with_reducible apply Sel.cons | with_reducible apply Sel.drop)); done) | (repeat (first | exact Sel.refl | exact Sel.nil | exact Del.here | apply Del.there | apply Sel.cons | apply Sel.drop))))))
        · (try simp only [Bool.not_eq_true'] at c8); (try simp only [Bool.not_eq_false'] at c8); (try simp only [decide_eq_true_eq] at c8); (try simp only [decide_eq_false_iff_not] at c8)
          obtain ⟨e1, he1⟩ := Option.isSome_iff_exists.1 c8
          simp only [he1, Option.elim_some] at M
          have hlen1 := (mdel_perm he1).length_eq
          simp only [List.length_cons] at hlen1
          have hmem1 := mget_mem he1
          refine W.skip ?_
          refine WX.next ?_
          refine W.seq ?_
          refine W.region ?_
          refine WL.move rfl rfl ?_
          refine WL.nilCheck rfl rfl ?_
          refine WL.fieldR (off := 2) Try.underlying102 rfl rfl Try.sizeOf22 rfl rfl rfl ?_
          refine WL.loadR Try.isAgg22 rfl M (by first | ((repeat (first | with_reducible exact Has.here | with_reducible refine Has.there ?_)); done) | (repeat (first | exact Has.here | refine Has.there ?_))) rfl rfl ?_
          refine WL.add rfl rfl (show IntKind.u64.wrap ((zg : Int) + 1) = ((zg + 1 : Nat) : Int) by rw [wU64 (by omega)]; omega) rfl ?_
          refine WL.nilCheck rfl rfl ?_
          refine WL.fieldR (off := 2) Try.underlying102 rfl rfl Try.sizeOf22 rfl rfl rfl ?_
          refine WL.storeR Try.sizeOf22 rfl rfl rfl M (by first | ((repeat (first | with_reducible exact Has.here | with_reducible refine Has.there ?_)); done) | (repeat (first | exact Has.here | refine Has.there ?_))) (by repeat (first | exact SetAt.zero | apply SetAt.succ)) (by first | ((repeat (first | with_reducible exact Upd.here | with_reducible apply Upd.there)); done) | (repeat (first | exact Upd.here | apply Upd.there))) ?_
          intro w M
          refine WL.nil ?_
          refine WX.next ?_
          refine W.sub [(0, _), (5, _), (9, _), (10, _)] (.cons rfl (.cons rfl (.cons rfl (.cons rfl .nil)))) ?_
          refine W.seq ?_
          refine W.drawM (_) (by kernel_rfl) (fun j => [3, 7].contains j) M Sel.refl ?_
          clear M; intro M
          apply DG.pure_ [0, 1, 2, 4, 5, 6] 3 rfl (by kernel_rfl) (by kernel_rfl)
          · intro w
            refine WL.move rfl rfl ?_
            refine WL.nilCheck rfl rfl ?_
            refine WL.fieldR (off := 3) Try.underlying102 rfl rfl Try.sizeOf100 rfl rfl rfl ?_
            refine WL.move rfl rfl ?_
            refine WL.nilCheck rfl rfl ?_
            refine WL.fieldR (off := 2) Try.underlying102 rfl rfl Try.sizeOf22 rfl rfl rfl ?_
            exact Chain.end_ rfl
          apply DG.take [3, 7] 1 rfl (by kernel_rfl) (by kernel_rfl) (M.sel (by first | ((repeat (first | with_reducible exact Sel.refl | with_reducible exact Sel.nil | with_reducible exact Del.here | with_reducible apply Del.there | with_reducible apply Sel.cons | with_reducible apply Sel.drop)); done) | (repeat (first | exact Sel.refl | exact Sel.nil | exact Del.here | apply Del.there | apply Sel.cons | apply Sel.drop))))
          · intro w M
            refine WL.loadR Try.isAgg100 rfl M (by first | ((repeat (first | with_reducible exact Has.here | with_reducible refine Has.there ?_)); done) | (repeat (first | exact Has.here | refine Has.there ?_))) rfl rfl ?_
            refine WL.loadR Try.isAgg22 rfl M (by first | ((repeat (first | with_reducible exact Has.here | with_reducible refine Has.there ?_)); done) | (repeat (first | exact Has.here | refine Has.there ?_))) rfl rfl ?_
            exact Chain.end_ rfl
          refine DG.step 8 0 rfl (by kernel_rfl) ?_
          refine WL.mapDelete (E := earlyM) Try.underlying100 Try.underlying22 rfl rfl M (by first | ((repeat (first | with_reducible exact Has.here | with_reducible refine Has.there ?_)); done) | (repeat (first | exact Has.here | refine Has.there ?_))) (by first | ((repeat (first | with_reducible exact Upd.here | with_reducible apply Upd.there)); done) | (repeat (first | exact Upd.here | apply Upd.there))) ?_
          intro w M
          refine DG.go (G := fun j => [3, 7].contains j) (i := 8) (f' := 0) (done := [0, 1, 2, 4, 5, 6, 3, 7]) (fun h => by cases h) ?_
          refine DG.end_ (by kernel_rfl) ?_
          refine WX.next ?_
          refine W.sub [(0, _), (5, _), (9, _), (10, _)] (.cons rfl (.cons rfl (.cons rfl (.cons rfl .nil)))) ?_
          refine W.region ?_
          refine WL.move rfl rfl ?_
          refine WL.fieldR (off := 0) Try.underlying104 rfl rfl Try.sizeOf34 rfl rfl rfl ?_
          refine WL.loadR Try.isAgg34 rfl M (by first | ((repeat (first | with_reducible exact Has.here | with_reducible refine Has.there ?_)); done) | (repeat (first | exact Has.here | refine Has.there ?_))) rfl rfl ?_
          refine WL.buildL (E := oxE) (l := [e1]) Try.elem34 M rfl rfl rfl rfl rfl rfl ?_
          intro g21_3 w M
          refine WL.appendL (E := oxE) Try.elem34 rfl rfl M (by first | ((repeat (first | with_reducible exact Del.here | with_reducible apply Del.there)); done) | (repeat (first | exact Del.here | apply Del.there))) (by first | with_reducible assumption | with_reducible exact RdL.mem (by with_reducible assumption) M | exact M.rdL (by first | ((repeat (first | with_reducible exact Has.here | with_reducible refine Has.there ?_)); done) | (repeat (first | exact Has.here | refine Has.there ?_))) | exact RdLH.at (by assumption) (M.sel (by first | ((repeat (first | with_reducible exact Sel.refl | with_reducible exact Sel.nil | with_reducible exact Del.here | with_reducible apply Del.there | with_reducible apply Sel.cons | with_reducible apply Sel.drop)); done) | (repeat (first | exact Sel.refl | exact Sel.nil | exact Del.here | apply Del.there | apply Sel.cons | apply Sel.drop)))) | exact RdL.nil _ _ _) rfl rfl (by simp; omega) (by simp [maxLen]; omega) rfl ?_
          intro A21_4 cap21_4 w M
          refine WL.assign rfl rfl ?_
          refine WL.nil ?_
          refine WX.blockNormal ?_
          skip
          have q1 : rhD r s = ((drain ((mdel zs (zg + 1)).length + 1) (zg + 1) (mmap OX.l (mdel zs (zg + 1)))).1, (drain ((mdel zs (zg + 1)).length + 1) (zg + 1) (mmap OX.l (mdel zs (zg + 1)))).2.1, (outs ++ [e1]).map OX.l ++ (drain ((mdel zs (zg + 1)).length + 1) (zg + 1) (mmap OX.l (mdel zs (zg + 1)))).2.2) := by
            rw [hzd, hlen1, drain_some (b := e1.l) (by rw [mget_mmap, he1]; rfl), mdel_mmap]
            simp
          have q2 : ∀ p ∈ mdel zs (zg + 1), p.2.l.length ≤ 1000 := fun p hp => hzb p ((mdel_sub zs (zg + 1)).subset hp)
          have q3 : ∀ o ∈ outs ++ [e1], o.l.length ≤ 1000 := by
            intro o h
            rcases List.mem_append.1 h with h | h
            · exact hob o h
            · rw [List.mem_singleton] at h; subst h; exact hzb _ hmem1
          replace M : Mem w0 w (Asr.star ((outs ++ [e1]).map OX.O) :: Asr.star ((mdel zs (zg + 1)).map fun p => p.2.O) :: Asr.row g0_2 36 [.int .u64 0, .int .u64 0, .bool false, .slice none 0 0] :: Asr.row g 102 [.int .i64 (window : Int), .int .u64 (life1 : Int), .int .u64 ((zg + 1 : Nat) : Int), .map (some gm)] :: Asr.mp earlyM gm (mdel zs (zg + 1)) :: Asr.lst oxE A21_4 cap21_4 (outs ++ [e1]) :: L') := by
            have M2 := M.sel (K := Asr.star (zs.map fun p => p.2.O) :: Asr.star (outs.map OX.O) :: Asr.row g0_2 36 [.int .u64 0, .int .u64 0, .bool false, .slice none 0 0] :: Asr.row g 102 [.int .i64 (window : Int), .int .u64 (life1 : Int), .int .u64 ((zg + 1 : Nat) : Int), .map (some gm)] :: Asr.mp earlyM gm (mdel zs (zg + 1)) :: Asr.lst oxE A21_4 cap21_4 (outs ++ [e1]) :: L') (by first | ((repeat (first | with_reducible exact Sel.refl | with_reducible exact Sel.nil | with_reducible exact Del.here | with_reducible apply Del.there | with_reducible apply Sel.cons | with_reducible apply Sel.drop)); done) | (repeat (first | exact Sel.refl | exact Sel.nil | exact Del.here | apply Del.there | apply Sel.cons | apply Sel.drop)))
            have M3 := Mem.unstarCons (M2.starPerm ((mdel_perm he1).map fun p => p.2.O))
            rw [List.map_append]
            exact Mem.starSnoc (A := e1.O) (Mem.sel M3 (Sel.cons .here (Sel.cons (.there .here) .refl)))
          refine WX.round (((mdel zs (zg + 1), zg + 1, outs ++ [e1]), (A21_4, cap21_4))) (by (repeat' (first | exact envSub.nil | refine envSub.cons ?_ ?_)) <;> first | rfl | (refine congrArg some ?_; refine congrArg (Value.int _) ?_; first | omega | (dsimp only; omega)) | (simp; done) | (refine congrArg some ?_; dsimp only; congr 1; omega) | (simp; omega)) ⟨M.sel (by first | ((repeat (first | with_reducible exact Sel.refl | with_reducible exact Sel.nil | with_reducible exact Del.here | with_reducible apply Del.there | with_reducible apply Sel.cons | with_reducible apply Sel.drop)); done) | (repeat (first | exact Sel.refl | exact Sel.nil | exact Del.here | apply Del.there | apply Sel.cons | apply Sel.drop))), ⟨by dsimp only; omega, by simp; omega, mdel_nodup hzn _, q2, q3, q1⟩⟩ (by first | omega | (dsimp only; omega))

/-- A receiver at g, in state r. -/
def RcX.of (g gm : Nat) (ms : List (Nat × OX)) (r : Rc) : RcX := ⟨g, gm, ms, r.window, r.life, r.got⟩
theorem RcX.of_r {g gm : Nat} {ms : List (Nat × OX)} {r : Rc} (h : mmap OX.l ms = r.m) : (RcX.of g gm ms r).r = r := by
  unfold RcX.of RcX.r
  rw [h]
theorem HearR2 (g gm : Nat) (ms : List (Nat × OX)) (r : Rc) (hm : mmap OX.l ms = r.m) (hr : r.ok) (q : SX) (hq1 : q.life < 18446744073709551616) (hq2 : q.seq < 18446744073709551616) (w0 w : World) (L L' : List Asr) (M : Mem w0 w L) (hd : Del (RcX.of g gm ms r).O L L') (hb : RdH w0 L' q.x.A q.x.cap q.x.l) :
    Fn Try.prog 33 [.pointer (some ⟨g, 0, none⟩), q.v] w fun v w' => ∃ (gm' : Nat) (ms' : List (Nat × OX)) (A : Option Addr) (cap : Nat) (outs : List OX),
      v = .tuple #[.slice A outs.length cap, SX.v ⟨(rhA r q.key).1, (rhA r q.key).2.1, (rhA r q.key).2.2.1, ⟨none, 0, []⟩⟩, .int .i64 (rhE r q.key)] ∧ mmap OX.l ms' = (rhS r q.key).m ∧
      outs.map OX.l = rhO r q.key ∧ (∀ o ∈ outs, o.l.length ≤ 1000) ∧ Mem w0 w' (Asr.lst oxE A cap outs :: Asr.star (outs.map OX.O) :: (RcX.of g gm' ms' (rhS r q.key)).O :: L') :=
  Fn.mono (HearR_ok (RcX.of g gm ms r) (by rw [RcX.of_r hm]; exact hr) q hq1 hq2 w0 w L L' M hd hb) fun v w' ⟨⟨g', gm', ms', wi, li, go⟩, A, cap, outs, hv, hg, hr', ho, hb, M⟩ => by
    rw [RcX.of_r hm] at hv hr' ho
    dsimp only [RcX.of] at hg
    subst hg
    have h1 : rhS r q.key = ⟨wi, li, go, mmap OX.l ms'⟩ := hr'.symm
    refine ⟨gm', ms', A, cap, outs, hv, by rw [h1], ho, hb, ?_⟩
    unfold RcX.of
    rw [h1]
    exact M
end Go.Proofs.Ytgaegaaaoopolaa
