/-
  Walks: the sender (sess).
-/
import Derived.Test.YtgaegaaaoopolaaSess1
namespace Go.Proofs.Ytgaegaaaoopolaa
open Go Go.RowKit

/-- A sender's state. -/
structure Sn where
  life : Nat
  window : Nat
  span : Nat
  acked : Nat
  now : Nat
  l : List (List UInt8 × Nat)
/-- What is asked of it. -/
structure Sn.ok (s : Sn) : Prop where
  life : s.life < 18446744073709551616
  win : 1 ≤ s.window ∧ s.window ≤ 64
  span : 1 ≤ s.span ∧ s.span ≤ 1000
  acked : s.acked + s.l.length < 1000000000
  now : s.now < 1000000000
  len : s.l.length ≤ 128
  body : ∀ p ∈ s.l, p.1.length ≤ 1000
  sent : ∀ p ∈ s.l, p.2 ≤ s.now

def pushE (s : Sn) (b : List UInt8) : Int := if 1000 < b.length then 3 else if 128 ≤ s.l.length then 5 else 0
def pushS (s : Sn) (b : List UInt8) : Sn := if pushE s b = 0 then { s with l := s.l ++ [(b, 0)] } else s
def due (span now : Nat) (p : List UInt8 × Nat) : Bool := !(decide (0 < p.2) && decide ((now : Int) - (p.2 : Int) < (span : Int)))
/-- What goes of the first i pieces. -/
def outTo (life acked span now : Nat) (l : List (List UInt8 × Nat)) : Nat → List (Nat × Nat × Bool × List UInt8)
  | 0 => []
  | i + 1 => outTo life acked span now l i ++ (if due span now (el l i) then [(life, acked + i + 1, false, (el l i).1)] else [])
/-- The pieces behind that. -/
def sentTo (span now k : Nat) (l : List (List UInt8 × Nat)) : List (List UInt8 × Nat) := (List.range l.length).map fun j => if j < k ∧ due span now (el l j) then ((el l j).1, now) else el l j
def Sn.k (s : Sn) : Nat := min s.l.length s.window
def tickS (s : Sn) : Sn := { s with now := s.now + 1, l := sentTo s.span (s.now + 1) s.k s.l }
def tickO (s : Sn) : List (Nat × Nat × Bool × List UInt8) := outTo s.life s.acked s.span (s.now + 1) s.l s.k
def hearE (s : Sn) (g : Nat × Nat × Bool × List UInt8) : Int :=
  if isSeg g = false then 2 else if g.2.2.1 = false then 71 else if g.1 ≠ s.life then 70 else if s.acked < g.2.1 ∧ s.l.length < g.2.1 - s.acked then 11 else 0
def hearS (s : Sn) (g : Nat × Nat × Bool × List UInt8) : Sn := if hearE s g = 0 ∧ s.acked < g.2.1 then { s with acked := g.2.1, l := s.l.drop (g.2.1 - s.acked) } else s

/-- A sender as it lies. -/
structure SnX where
  g : Nat
  A : Option Addr
  cap : Nat
  ps : List PX
  s : Sn
def SnX.row (x : SnX) : List Value := [.int .u64 (x.s.life : Int), .int .i64 (x.s.window : Int), .int .i64 (x.s.span : Int), .int .u64 (x.s.acked : Int), .int .i64 (x.s.now : Int), .slice x.A x.ps.length x.cap]
def SnX.O (x : SnX) : Asr := Asr.star [Asr.row x.g 92 x.row, Asr.lst pieceE x.A x.cap x.ps, Asr.star (x.ps.map PX.O)]
def SnX.p (x : SnX) : Value := .pointer (some ⟨x.g, 0, none⟩)
/-- What lies there is the state. -/
def SnX.is (x : SnX) : Prop := x.ps.map PX.key = x.s.l
theorem SnX.is.len {x : SnX} (h : x.is) : x.s.l.length = x.ps.length := by rw [← h]; simp

theorem Left_ok (x : SnX) (w0 w : World) (L L' : List Asr) (M : Mem w0 w L) (hd : Del x.O L L') :
    Fn Try.prog 24 [x.p] w fun v w' => v = .int .i64 (x.ps.length : Int) ∧ w' = w := by
  replace M := (M.del hd).unstar3
  unfold SnX.row at M
  obtain ⟨g, A, cap, ps, ⟨life, window, span, acked, now, l⟩⟩ := x
  dsimp only [SnX.p] at M ⊢
  refine Fn.enter Try.func24 rfl Try.ntmps24 rfl ?_
  refine W.sub [(0, _)] (.cons rfl .nil) ?_
  refine W.seq ?_
  refine W.region ?_
  refine WL.assign rfl rfl ?_
  refine WL.nil ?_
  refine WX.next ?_
  refine W.sub [(0, _)] (.cons rfl .nil) ?_
  refine W.seq ?_
  refine W.seq ?_
  refine W.region ?_
  refine WL.move rfl rfl ?_
  refine WL.eqNilF Try.underlying24 rfl rfl rfl ?_
  refine WL.nil ?_
  refine WX.next ?_
  refine W.sub [(0, _), (4, _)] (.cons rfl (.cons rfl .nil)) ?_
  refine W.condF rfl ?_
  refine W.skip ?_
  refine WX.next ?_
  refine W.seq ?_
  refine W.region ?_
  refine WL.move rfl rfl ?_
  refine WL.nilCheck rfl rfl ?_
  refine WL.fieldR (off := 5) Try.underlying92 rfl rfl Try.sizeOf90 rfl rfl rfl ?_
  refine WL.loadR Try.isAgg90 rfl M (by first | ((repeat (first | with_reducible exact Has.here | with_reducible refine Has.there ?_)); done) | (repeat (first | exact Has.here | refine Has.there ?_))) rfl rfl ?_
  refine WL.len Try.underlying90 rfl rfl ?_
  refine WL.assign rfl rfl ?_
  refine WL.nil ?_
  refine WX.next ?_
  refine W.sub [(2, _)] (.cons rfl .nil) ?_
  refine W.ret ?_
  refine WX.ret1 rfl rfl ?_
  exact ⟨rfl, rfl⟩

theorem NewSender_ok (life : Nat) (window span : Int) (w0 : World) : Fn Try.prog 11 [.int .u64 (life : Int), .int .i64 window, .int .i64 span] w0 fun v w' =>
    if window < 1 ∨ window > 64 ∨ span < 1 ∨ span > 1000 then v = .tuple #[.pointer none, .int .i64 2] ∧ Mem w0 w' [] else
      ∃ g, v = .tuple #[.pointer (some ⟨g, 0, none⟩), .int .i64 0] ∧ Mem w0 w' [SnX.O ⟨g, none, 0, [], ⟨life, window.toNat, span.toNat, 0, 0, []⟩⟩] := by
  have M := Mem.refl w0
  refine Fn.enter Try.func11 rfl Try.ntmps11 rfl ?_
  refine W.sub [(0, _), (1, _), (2, _)] (.cons rfl (.cons rfl (.cons rfl .nil))) ?_
  refine W.seq ?_
  refine W.region ?_
  refine WL.assign rfl rfl ?_
  refine WL.assign rfl rfl ?_
  refine WL.nil ?_
  refine WX.next ?_
  refine W.sub [(0, _), (1, _), (2, _)] (.cons rfl (.cons rfl (.cons rfl .nil))) ?_
  refine W.seq ?_
  refine W.seq ?_
  refine W.region ?_
  refine WL.move rfl rfl ?_
  refine WL.lss rfl rfl rfl ?_
  refine WL.moveIf rfl rfl (fun c0 => ?_) (fun c0 => ?_)
  · refine WL.off rfl rfl rfl rfl ?_
    refine WL.off rfl rfl rfl rfl ?_
    refine WL.pickT rfl rfl rfl ?_
    refine WL.move rfl rfl ?_
    refine WL.off rfl rfl rfl rfl ?_
    refine WL.off rfl rfl rfl rfl ?_
    refine WL.pickT rfl rfl rfl ?_
    refine WL.move rfl rfl ?_
    refine WL.off rfl rfl rfl rfl ?_
    refine WL.off rfl rfl rfl rfl ?_
    refine WL.pickT rfl rfl rfl ?_
    refine WL.nil ?_
    refine WX.next ?_
    refine W.sub [(0, _), (1, _), (2, _), (21, _)] (.cons rfl (.cons rfl (.cons rfl (.cons rfl .nil)))) ?_
    refine W.condT rfl ?_
    refine W.seq ?_
    refine W.region ?_
    refine WL.assign rfl rfl ?_
    refine WL.assign rfl rfl ?_
    refine WL.nil ?_
    refine WX.next ?_
    refine W.sub [(6, _), (7, _)] (.cons rfl (.cons rfl .nil)) ?_
    refine W.ret ?_
    refine WX.thenRet ?_
    refine WX.ret2 rfl rfl rfl ?_
    rw [if_pos (by omega)]; exact ⟨rfl, M⟩
  · refine WL.on rfl rfl ?_
    refine WL.move rfl rfl ?_
    refine WL.on rfl rfl ?_
    refine WL.gtr rfl rfl rfl ?_
    refine WL.pickF rfl rfl rfl ?_
    refine WL.moveIf rfl rfl (fun c1 => ?_) (fun c1 => ?_)
    · refine WL.off rfl rfl rfl rfl ?_
      refine WL.off rfl rfl rfl rfl ?_
      refine WL.pickT rfl rfl rfl ?_
      refine WL.move rfl rfl ?_
      refine WL.off rfl rfl rfl rfl ?_
      refine WL.off rfl rfl rfl rfl ?_
      refine WL.pickT rfl rfl rfl ?_
      refine WL.nil ?_
      refine WX.next ?_
      refine W.sub [(0, _), (1, _), (2, _), (21, _)] (.cons rfl (.cons rfl (.cons rfl (.cons rfl .nil)))) ?_
      refine W.condT rfl ?_
      refine W.seq ?_
      refine W.region ?_
      refine WL.assign rfl rfl ?_
      refine WL.assign rfl rfl ?_
      refine WL.nil ?_
      refine WX.next ?_
      refine W.sub [(6, _), (7, _)] (.cons rfl (.cons rfl .nil)) ?_
      refine W.ret ?_
      refine WX.thenRet ?_
      refine WX.ret2 rfl rfl rfl ?_
      rw [if_pos (by omega)]; exact ⟨rfl, M⟩
    · refine WL.on rfl rfl ?_
      refine WL.move rfl rfl ?_
      refine WL.on rfl rfl ?_
      refine WL.lss rfl rfl rfl ?_
      refine WL.pickF rfl rfl rfl ?_
      refine WL.moveIf rfl rfl (fun c2 => ?_) (fun c2 => ?_)
      · refine WL.off rfl rfl rfl rfl ?_
        refine WL.off rfl rfl rfl rfl ?_
        refine WL.pickT rfl rfl rfl ?_
        refine WL.nil ?_
        refine WX.next ?_
        refine W.sub [(0, _), (1, _), (2, _), (21, _)] (.cons rfl (.cons rfl (.cons rfl (.cons rfl .nil)))) ?_
        refine W.condT rfl ?_
        refine W.seq ?_
        refine W.region ?_
        refine WL.assign rfl rfl ?_
        refine WL.assign rfl rfl ?_
        refine WL.nil ?_
        refine WX.next ?_
        refine W.sub [(6, _), (7, _)] (.cons rfl (.cons rfl .nil)) ?_
        refine W.ret ?_
        refine WX.thenRet ?_
        refine WX.ret2 rfl rfl rfl ?_
        rw [if_pos (by omega)]; exact ⟨rfl, M⟩
      · refine WL.on rfl rfl ?_
        refine WL.move rfl rfl ?_
        refine WL.on rfl rfl ?_
        refine WL.gtr rfl rfl rfl ?_
        refine WL.pickF rfl rfl rfl ?_
        refine WL.nil ?_
        refine WX.next ?_
        refine W.sub [(0, _), (1, _), (2, _), (21, _)] (.cons rfl (.cons rfl (.cons rfl (.cons rfl .nil)))) ?_
        refine W.ite rfl (fun c3 => ?_) (fun c3 => ?_)
        · refine W.seq ?_
          refine W.region ?_
          refine WL.assign rfl rfl ?_
          refine WL.assign rfl rfl ?_
          refine WL.nil ?_
          refine WX.next ?_
          refine W.sub [(6, _), (7, _)] (.cons rfl (.cons rfl .nil)) ?_
          refine W.ret ?_
          refine WX.thenRet ?_
          refine WX.ret2 rfl rfl rfl ?_
          rw [if_pos (by omega)]; exact ⟨rfl, M⟩
        · refine W.skip ?_
          refine WX.next ?_
          refine W.seq ?_
          refine W.region ?_
          refine WL.move rfl rfl ?_
          refine WL.move rfl rfl ?_
          refine WL.move rfl rfl ?_
          refine WL.buildP (places := #[(0, 1), (1, 1), (2, 1), (3, 1), (4, 1), (5, 1)]) Try.underlying92 Try.zeroValue92 (fun _ => by simp [Try.sizeOf22, Try.sizeOf3, Try.sizeOf3, Try.sizeOf22, Try.sizeOf3, Try.sizeOf90]) rfl (by repeat (first | exact Puts.nil | exact SetAt.zero | apply SetAt.succ | apply Puts.cons rfl rfl)) rfl ?_
          refine WL.box rfl M rfl ?_
          intro g3_4 w M
          try simp only [Value.cells] at M
          try simp only [List.toList_toArray] at M
          refine WL.assign rfl rfl ?_
          refine WL.assign rfl rfl ?_
          refine WL.nil ?_
          refine WX.next ?_
          refine W.sub [(6, _), (7, _)] (.cons rfl (.cons rfl .nil)) ?_
          refine W.ret ?_
          refine WX.ret2 rfl rfl rfl ?_
          rw [if_neg (by omega)]
          refine ⟨g3_4, rfl, ?_⟩
          have e1 : ((window.toNat : Nat) : Int) = window := by omega
          have e2 : ((span.toNat : Nat) : Int) = span := by omega
          refine Mem.star3 ?_
          unfold SnX.row
          dsimp only
          rw [e1, e2]
          exact Mem.f2 ((M.starNil).nilOwn _ _)

set_option maxRecDepth 10000 in
theorem Push_ok (x : SnX) (hx : x.is) (hs : x.s.ok) (A : Option Addr) (cap : Nat) (b : List UInt8) (w0 w : World) (L L' : List Asr) (M : Mem w0 w L) (hd : Del x.O L L') (hb : RdH w0 L' A cap b) :
    Fn Try.prog 15 [x.p, .slice A b.length cap] w fun v w' => ∃ x' : SnX, v = .int .i64 (pushE x.s b) ∧ x'.g = x.g ∧ x'.s = pushS x.s b ∧ x'.is ∧ Mem w0 w' (x'.O :: L') := by
  have hlen := hx.len
  have hM := M.del hd
  replace M := (M.del hd).unstar3
  have h128 := hs.len
  unfold SnX.row at M
  obtain ⟨g, B, cB, ps, ⟨life, window, span, acked, now, l⟩⟩ := x
  dsimp only [SnX.p, SnX.is] at M hx hlen h128 hM ⊢
  refine Fn.enter Try.func15 rfl Try.ntmps15 rfl ?_
  refine W.sub [(0, _), (1, _)] (.cons rfl (.cons rfl .nil)) ?_
  refine W.seq ?_
  refine W.region ?_
  refine WL.assign rfl rfl ?_
  refine WL.nil ?_
  refine WX.next ?_
  refine W.sub [(0, _), (1, _)] (.cons rfl (.cons rfl .nil)) ?_
  refine W.seq ?_
  refine W.block ?_
  refine W.seq ?_
  refine W.region ?_
  refine WL.move rfl rfl ?_
  refine WL.eqNilF Try.underlying24 rfl rfl rfl ?_
  refine WL.assign rfl rfl ?_
  refine WL.nil ?_
  refine WX.next ?_
  refine W.sub [(0, _), (1, _), (5, _)] (.cons rfl (.cons rfl (.cons rfl .nil))) ?_
  refine W.condF rfl ?_
  refine W.seq ?_
  refine W.region ?_
  refine WL.move rfl rfl ?_
  refine WL.len Try.underlying34 rfl rfl ?_
  refine WL.gtr rfl rfl rfl ?_
  refine WL.assign rfl rfl ?_
  refine WL.nil ?_
  refine WX.next ?_
  refine W.sub [(0, _), (1, _), (8, _)] (.cons rfl (.cons rfl (.cons rfl .nil))) ?_
  refine W.ite rfl (fun c1 => ?_) (fun c1 => ?_)
  · refine W.seq ?_
    refine W.region ?_
    refine WL.assign rfl rfl ?_
    refine WL.nil ?_
    refine WX.next ?_
    refine W.sub [(4, _)] (.cons rfl .nil) ?_
    refine W.ret ?_
    refine WX.blockRet ?_
    refine WX.thenRet ?_
    refine WX.ret1 rfl rfl ?_
    have e : pushE ⟨life, window, span, acked, now, l⟩ b = 3 := by unfold pushE; rw [if_pos (by omega)]
    exact ⟨⟨g, B, cB, ps, ⟨life, window, span, acked, now, l⟩⟩, by rw [e], rfl, by unfold pushS; rw [e, if_neg (by omega)], hx, hM⟩
  · refine W.seq ?_
    refine W.region ?_
    refine WL.move rfl rfl ?_
    refine WL.nilCheck rfl rfl ?_
    refine WL.fieldR (off := 5) Try.underlying92 rfl rfl Try.sizeOf90 rfl rfl rfl ?_
    refine WL.loadR Try.isAgg90 rfl M (by first | ((repeat (first | with_reducible exact Has.here | with_reducible refine Has.there ?_)); done) | (repeat (first | exact Has.here | refine Has.there ?_))) rfl rfl ?_
    refine WL.len Try.underlying90 rfl rfl ?_
    refine WL.geq rfl rfl rfl ?_
    refine WL.assign rfl rfl ?_
    refine WL.nil ?_
    refine WX.next ?_
    refine W.sub [(0, _), (1, _), (12, _)] (.cons rfl (.cons rfl (.cons rfl .nil))) ?_
    refine W.ite rfl (fun c2 => ?_) (fun c2 => ?_)
    · refine W.seq ?_
      refine W.region ?_
      refine WL.assign rfl rfl ?_
      refine WL.nil ?_
      refine WX.next ?_
      refine W.sub [(4, _)] (.cons rfl .nil) ?_
      refine W.ret ?_
      refine WX.blockRet ?_
      refine WX.thenRet ?_
      refine WX.ret1 rfl rfl ?_
      have e : pushE ⟨life, window, span, acked, now, l⟩ b = 5 := by unfold pushE; rw [if_neg (by omega), if_pos (by dsimp only; omega)]
      exact ⟨⟨g, B, cB, ps, ⟨life, window, span, acked, now, l⟩⟩, by rw [e], rfl, by unfold pushS; rw [e, if_neg (by omega)], hx, hM⟩
    · refine W.skip ?_
      refine WX.blockNormal ?_
      refine WX.next ?_
      refine W.seq ?_
      refine W.drawM (_) (by kernel_rfl) (fun j => [5, 7, 8, 9].contains j) M Sel.refl ?_
      clear M; intro M
      apply DG.pure_ [0, 1, 2, 3, 6] 9 rfl (by kernel_rfl) (by kernel_rfl)
      · intro w
        refine WL.move rfl rfl ?_
        refine WL.move rfl rfl ?_
        refine WL.nilCheck rfl rfl ?_
        refine WL.fieldR (off := 5) Try.underlying92 rfl rfl Try.sizeOf90 rfl rfl rfl ?_
        refine WL.move rfl rfl ?_
        exact Chain.end_ rfl
      apply DG.take [4] 8 rfl (by kernel_rfl) (by kernel_rfl) (M.sel (by first | ((repeat (first | with_reducible exact Sel.refl | with_reducible exact Sel.nil | with_reducible exact Del.here | with_reducible apply Del.there | with_reducible apply Sel.cons | with_reducible apply Sel.drop)); done) | (repeat (first | exact Sel.refl | exact Sel.nil | exact Del.here | apply Del.there | apply Sel.cons | apply Sel.drop))))
      · intro w M
        refine WL.loadR Try.isAgg90 rfl M (by first | ((repeat (first | with_reducible exact Has.here | with_reducible refine Has.there ?_)); done) | (repeat (first | exact Has.here | refine Has.there ?_))) rfl rfl ?_
        exact Chain.end_ rfl
      refine DG.step 5 7 rfl (by kernel_rfl) ?_
      refine WL.buildB (es := []) Try.elem5 M rfl rfl (by exact BytesOf.nil) (by rfl) rfl rfl ?_
      intro g7_5 w M
      refine DG.go (G := fun j => [5, 7, 8, 9].contains j) (i := 5) (f' := 7) (done := [0, 1, 2, 3, 6, 4]) (fun _ => M.sel (by first | ((repeat (first | with_reducible exact Sel.refl | with_reducible exact Sel.nil | with_reducible exact Del.here | with_reducible apply Del.there | with_reducible apply Sel.cons | with_reducible apply Sel.drop)); done) | (repeat (first | exact Sel.refl | exact Sel.nil | exact Del.here | apply Del.there | apply Sel.cons | apply Sel.drop)))) ?_
      refine DG.step 7 6 rfl (by kernel_rfl) ?_
      refine WL.appendBN Try.elem5 rfl rfl M (by first | ((repeat (first | with_reducible exact Del.here | with_reducible apply Del.there)); done) | (repeat (first | exact Del.here | apply Del.there))) (by first | first | with_reducible assumption | with_reducible exact RdB.mem (by with_reducible assumption) M | exact M.rdB (by first | ((repeat (first | with_reducible exact Has.here | with_reducible refine Has.there ?_)); done) | (repeat (first | exact Has.here | refine Has.there ?_))) | exact RdH.at (by assumption) (M.sel (by first | ((repeat (first | with_reducible exact Sel.refl | with_reducible exact Sel.nil | with_reducible exact Del.here | with_reducible apply Del.there | with_reducible apply Sel.cons | with_reducible apply Sel.drop)); done) | (repeat (first | exact Sel.refl | exact Sel.nil | exact Del.here | apply Del.there | apply Sel.cons | apply Sel.drop)))) | exact M.rdLit' (by first | ((repeat (first | with_reducible exact Has.here | with_reducible refine Has.there ?_)); done) | (repeat (first | exact Has.here | refine Has.there ?_))) | exact M.rdLent (by first | ((repeat (first | with_reducible exact Has.here | with_reducible refine Has.there ?_)); done) | (repeat (first | exact Has.here | refine Has.there ?_))) | exact RdB.nil _ _ | exact RdB.sub (by first | with_reducible assumption | with_reducible exact RdB.mem (by with_reducible assumption) M | exact M.rdB (by first | ((repeat (first | with_reducible exact Has.here | with_reducible refine Has.there ?_)); done) | (repeat (first | exact Has.here | refine Has.there ?_))) | exact RdH.at (by assumption) (M.sel (by first | ((repeat (first | with_reducible exact Sel.refl | with_reducible exact Sel.nil | with_reducible exact Del.here | with_reducible apply Del.there | with_reducible apply Sel.cons | with_reducible apply Sel.drop)); done) | (repeat (first | exact Sel.refl | exact Sel.nil | exact Del.here | apply Del.there | apply Sel.cons | apply Sel.drop)))) | exact M.rdLit' (by first | ((repeat (first | with_reducible exact Has.here | with_reducible refine Has.there ?_)); done) | (repeat (first | exact Has.here | refine Has.there ?_))) | exact M.rdLent (by first | ((repeat (first | with_reducible exact Has.here | with_reducible refine Has.there ?_)); done) | (repeat (first | exact Has.here | refine Has.there ?_))) | exact RdB.nil _ _) (by omega) (by omega) | exact RdB.pre' (by first | with_reducible assumption | with_reducible exact RdB.mem (by with_reducible assumption) M | exact M.rdB (by first | ((repeat (first | with_reducible exact Has.here | with_reducible refine Has.there ?_)); done) | (repeat (first | exact Has.here | refine Has.there ?_))) | exact RdH.at (by assumption) (M.sel (by first | ((repeat (first | with_reducible exact Sel.refl | with_reducible exact Sel.nil | with_reducible exact Del.here | with_reducible apply Del.there | with_reducible apply Sel.cons | with_reducible apply Sel.drop)); done) | (repeat (first | exact Sel.refl | exact Sel.nil | exact Del.here | apply Del.there | apply Sel.cons | apply Sel.drop)))) | exact M.rdLit' (by first | ((repeat (first | with_reducible exact Has.here | with_reducible refine Has.there ?_)); done) | (repeat (first | exact Has.here | refine Has.there ?_))) | exact M.rdLent (by first | ((repeat (first | with_reducible exact Has.here | with_reducible refine Has.there ?_)); done) | (repeat (first | exact Has.here | refine Has.there ?_))) | exact RdB.nil _ _) (by omega) | exact RdB.suf (by first | with_reducible assumption | with_reducible exact RdB.mem (by with_reducible assumption) M | exact M.rdB (by first | ((repeat (first | with_reducible exact Has.here | with_reducible refine Has.there ?_)); done) | (repeat (first | exact Has.here | refine Has.there ?_))) | exact RdH.at (by assumption) (M.sel (by first | ((repeat (first | with_reducible exact Sel.refl | with_reducible exact Sel.nil | with_reducible exact Del.here | with_reducible apply Del.there | with_reducible apply Sel.cons | with_reducible apply Sel.drop)); done) | (repeat (first | exact Sel.refl | exact Sel.nil | exact Del.here | apply Del.there | apply Sel.cons | apply Sel.drop)))) | exact M.rdLit' (by first | ((repeat (first | with_reducible exact Has.here | with_reducible refine Has.there ?_)); done) | (repeat (first | exact Has.here | refine Has.there ?_))) | exact M.rdLent (by first | ((repeat (first | with_reducible exact Has.here | with_reducible refine Has.there ?_)); done) | (repeat (first | exact Has.here | refine Has.there ?_))) | exact RdB.nil _ _) (by omega)) rfl rfl (by first | omega | (simp; done) | (simp; omega)) rfl ?_
      intro A7_7 cap7_7 w M
      refine DG.go (G := fun j => [5, 7, 8, 9].contains j) (i := 7) (f' := 6) (done := [0, 1, 2, 3, 6, 4, 5]) (fun _ => M.sel (by first | ((repeat (first | with_reducible exact Sel.refl | with_reducible exact Sel.nil | with_reducible exact Del.here | with_reducible apply Del.there | with_reducible apply Sel.cons | with_reducible apply Sel.drop)); done) | (repeat (first | exact Sel.refl | exact Sel.nil | exact Del.here | apply Del.there | apply Sel.cons | apply Sel.drop)))) ?_
      apply DG.take [8] 5 rfl (by kernel_rfl) (by kernel_rfl) (M.sel (by first | ((repeat (first | with_reducible exact Sel.refl | with_reducible exact Sel.nil | with_reducible exact Del.here | with_reducible apply Del.there | with_reducible apply Sel.cons | with_reducible apply Sel.drop)); done) | (repeat (first | exact Sel.refl | exact Sel.nil | exact Del.here | apply Del.there | apply Sel.cons | apply Sel.drop))))
      · intro w M
        refine WL.buildP (places := #[(0, 1), (1, 1)]) Try.underlying94 Try.zeroValue94 (fun _ => by simp [Try.sizeOf34, Try.sizeOf3]) rfl (by repeat (first | exact Puts.nil | exact SetAt.zero | apply SetAt.succ | apply Puts.cons rfl rfl)) rfl ?_
        exact Chain.end_ rfl
      refine DG.step 9 4 rfl (by kernel_rfl) ?_
      refine WL.buildL (E := pieceE) (l := [⟨⟨A7_7, cap7_7, b⟩, 0⟩]) Try.elem94 M rfl rfl rfl rfl rfl rfl ?_
      intro g7_9 w M
      refine DG.go (G := fun j => [5, 7, 8, 9].contains j) (i := 9) (f' := 4) (done := [0, 1, 2, 3, 6, 4, 5, 7, 8]) (fun _ => M.sel (by first | ((repeat (first | with_reducible exact Sel.refl | with_reducible exact Sel.nil | with_reducible exact Del.here | with_reducible apply Del.there | with_reducible apply Sel.cons | with_reducible apply Sel.drop)); done) | (repeat (first | exact Sel.refl | exact Sel.nil | exact Del.here | apply Del.there | apply Sel.cons | apply Sel.drop)))) ?_
      refine DG.step 10 3 rfl (by kernel_rfl) ?_
      refine WL.appendL (E := pieceE) Try.elem94 rfl rfl M (by first | ((repeat (first | with_reducible exact Del.here | with_reducible apply Del.there)); done) | (repeat (first | exact Del.here | apply Del.there))) (by first | with_reducible assumption | with_reducible exact RdL.mem (by with_reducible assumption) M | exact M.rdL (by first | ((repeat (first | with_reducible exact Has.here | with_reducible refine Has.there ?_)); done) | (repeat (first | exact Has.here | refine Has.there ?_))) | exact RdLH.at (by assumption) (M.sel (by first | ((repeat (first | with_reducible exact Sel.refl | with_reducible exact Sel.nil | with_reducible exact Del.here | with_reducible apply Del.there | with_reducible apply Sel.cons | with_reducible apply Sel.drop)); done) | (repeat (first | exact Sel.refl | exact Sel.nil | exact Del.here | apply Del.there | apply Sel.cons | apply Sel.drop)))) | exact RdL.nil _ _ _) rfl rfl (by first | omega | (simp; done) | (simp; omega)) (by first | (simp only [maxLen]; omega) | (simp [maxLen]; done) | (simp [maxLen]; omega)) rfl ?_
      intro A7_10 cap7_10 w M
      refine DG.go (G := fun j => [5, 7, 8, 9].contains j) (i := 10) (f' := 3) (done := [0, 1, 2, 3, 6, 4, 5, 7, 8, 9]) (fun h => by cases h) ?_
      apply DG.pure_ [11, 12] 1 rfl (by kernel_rfl) (by kernel_rfl)
      · intro w
        refine WL.nilCheck rfl rfl ?_
        refine WL.fieldR (off := 5) Try.underlying92 rfl rfl Try.sizeOf90 rfl rfl rfl ?_
        exact Chain.end_ rfl
      refine DG.step 13 0 rfl (by kernel_rfl) ?_
      refine WL.storeR Try.sizeOf90 rfl rfl rfl M (by first | ((repeat (first | with_reducible exact Has.here | with_reducible refine Has.there ?_)); done) | (repeat (first | exact Has.here | refine Has.there ?_))) (by repeat (first | exact SetAt.zero | apply SetAt.succ)) (by first | ((repeat (first | with_reducible exact Upd.here | with_reducible apply Upd.there)); done) | (repeat (first | exact Upd.here | apply Upd.there))) ?_
      intro w M
      refine DG.go (G := fun j => [5, 7, 8, 9].contains j) (i := 13) (f' := 0) (done := [0, 1, 2, 3, 6, 4, 5, 7, 8, 9, 10, 11, 12]) (fun h => by cases h) ?_
      refine DG.end_ (by kernel_rfl) ?_
      refine WX.next ?_
      refine W.sub [] .nil ?_
      refine W.seq ?_
      refine W.region ?_
      refine WL.assign rfl rfl ?_
      refine WL.nil ?_
      refine WX.next ?_
      refine W.sub [(4, _)] (.cons rfl .nil) ?_
      refine W.ret ?_
      refine WX.ret1 rfl rfl ?_
      have e : pushE ⟨life, window, span, acked, now, l⟩ b = 0 := by unfold pushE; rw [if_neg (by omega), if_neg (by dsimp only; omega)]
      refine ⟨⟨g, A7_10, cap7_10, ps ++ [⟨⟨A7_7, cap7_7, b⟩, 0⟩], ⟨life, window, span, acked, now, l ++ [(b, 0)]⟩⟩, by rw [e], rfl, by unfold pushS; rw [e, if_pos rfl], by simp [hx, PX.key], ?_⟩
      refine Mem.star3 ?_
      dsimp only
      rw [List.map_append]
      exact Mem.f2 (Mem.f2 (Mem.starSnoc (A := PX.O ⟨⟨A7_7, cap7_7, b⟩, 0⟩) (M.sel (K := Asr.own 5 1 A7_7 b.length cap7_7 (bs b) :: Asr.star (ps.map PX.O) :: Asr.row g 92 _ :: Asr.lst pieceE A7_10 cap7_10 _ :: L') (by first | ((repeat (first | with_reducible exact Sel.refl | with_reducible exact Sel.nil | with_reducible exact Del.here | with_reducible apply Del.there | with_reducible apply Sel.cons | with_reducible apply Sel.drop)); done) | (repeat (first | exact Sel.refl | exact Sel.nil | exact Del.here | apply Del.there | apply Sel.cons | apply Sel.drop))))))

theorem sentTo_length (span now k : Nat) (l : List (List UInt8 × Nat)) : (sentTo span now k l).length = l.length := by simp [sentTo]
theorem outTo_key_len (life acked span now : Nat) (l : List (List UInt8 × Nat)) : ∀ i, (outTo life acked span now l i).length ≤ i
  | 0 => by simp [outTo]
  | i + 1 => by
    have := outTo_key_len life acked span now l i
    unfold outTo
    rw [List.length_append]
    split <;> simp <;> omega
theorem el_map {α β : Type} [Inhabited α] [Inhabited β] (f : α → β) {l : List α} {k : Nat} (hk : k < l.length) : el (l.map f) k = f (el l k) := by simp [el, hk]
theorem ext_el {α : Type} [Inhabited α] {a b : List α} (hl : a.length = b.length) (h : ∀ j, j < a.length → el a j = el b j) : a = b := by
  apply List.ext_getElem?
  intro j
  by_cases hj : j < a.length
  · rw [el_get hj, el_get (by omega), h j hj]
  · rw [List.getElem?_eq_none (by omega), List.getElem?_eq_none (by omega)]

set_option maxRecDepth 10000 in
set_option maxHeartbeats 1000000 in
theorem Tick_ok (x : SnX) (hx : x.is) (hs : x.s.ok) (w0 w : World) (L L' : List Asr) (M : Mem w0 w L) (hd : Del x.O L L') :
    Fn Try.prog 19 [x.p] w fun v w' => ∃ (x' : SnX) (A : Option Addr) (cap : Nat) (outs : List SX), v = .slice A outs.length cap ∧ x'.g = x.g ∧ x'.s = tickS x.s ∧ x'.is ∧ outs.map SX.key = tickO x.s ∧
      Mem w0 w' (Asr.lst segE A cap outs :: Asr.star (outs.map SX.O) :: x'.O :: L') := by
  have hlen := hx.len
  replace M := (M.del hd).unstar3
  obtain ⟨hlife, hwin, hspan, hack, hnow, h128, hbody, hsent⟩ := hs
  unfold SnX.row at M
  obtain ⟨g, B, cB, ps, ⟨life, window, span, acked, now, l⟩⟩ := x
  dsimp only [SnX.p, SnX.is] at M hx hlen h128 hlife hwin hspan hack hnow hbody hsent ⊢
  have hkey : ∀ j, j < ps.length → el l j = ((el ps j).x.l, (el ps j).sent) := fun j hj => by rw [← hx, el_map _ hj]; rfl
  have hmem : ∀ j, j < ps.length → el l j ∈ l := fun j hj => el_mem (by omega)
  refine Fn.enter Try.func19 rfl Try.ntmps19 rfl ?_
  refine W.sub [(0, _)] (.cons rfl .nil) ?_
  refine W.seq ?_
  refine W.region ?_
  refine WL.assign rfl rfl ?_
  refine WL.nil ?_
  refine WX.next ?_
  refine W.sub [(0, _)] (.cons rfl .nil) ?_
  refine W.seq ?_
  refine W.seq ?_
  refine W.region ?_
  refine WL.move rfl rfl ?_
  refine WL.eqNilF Try.underlying24 rfl rfl rfl ?_
  refine WL.nil ?_
  refine WX.next ?_
  refine W.sub [(0, _), (7, _)] (.cons rfl (.cons rfl .nil)) ?_
  refine W.condF rfl ?_
  refine W.skip ?_
  refine WX.next ?_
  refine W.seq ?_
  refine W.region ?_
  refine WL.move rfl rfl ?_
  refine WL.nilCheck rfl rfl ?_
  refine WL.fieldR (off := 4) Try.underlying92 rfl rfl Try.sizeOf3 rfl rfl rfl ?_
  refine WL.loadR Try.isAgg3 rfl M (by first | ((repeat (first | with_reducible exact Has.here | with_reducible refine Has.there ?_)); done) | (repeat (first | exact Has.here | refine Has.there ?_))) rfl rfl ?_
  refine WL.add rfl rfl (show IntKind.i64.wrap ((now : Int) + 1) = ((now + 1 : Nat) : Int) by rw [wI64 (by omega)]; omega) rfl ?_
  refine WL.nilCheck rfl rfl ?_
  refine WL.fieldR (off := 4) Try.underlying92 rfl rfl Try.sizeOf3 rfl rfl rfl ?_
  refine WL.storeR Try.sizeOf3 rfl rfl rfl M (by first | ((repeat (first | with_reducible exact Has.here | with_reducible refine Has.there ?_)); done) | (repeat (first | exact Has.here | refine Has.there ?_))) (by repeat (first | exact SetAt.zero | apply SetAt.succ)) (by first | ((repeat (first | with_reducible exact Upd.here | with_reducible apply Upd.there)); done) | (repeat (first | exact Upd.here | apply Upd.there))) ?_
  intro w M
  refine WL.nil ?_
  refine WX.next ?_
  refine W.sub [(0, _)] (.cons rfl .nil) ?_
  refine W.seq ?_
  refine W.region ?_
  refine WL.assign rfl rfl ?_
  refine WL.nil ?_
  refine WX.next ?_
  refine W.sub [(0, _), (3, _)] (.cons rfl (.cons rfl .nil)) ?_
  refine W.seq ?_
  refine W.seq ?_
  refine W.drawM (_) (by kernel_rfl) (fun j => [3, 4, 8].contains j) M Sel.refl ?_
  clear M; intro M
  apply DG.pure_ [0, 1, 2, 5, 6, 7, 10] 4 rfl (by kernel_rfl) (by kernel_rfl)
  · intro w
    refine WL.move rfl rfl ?_
    refine WL.nilCheck rfl rfl ?_
    refine WL.fieldR (off := 5) Try.underlying92 rfl rfl Try.sizeOf90 rfl rfl rfl ?_
    refine WL.move rfl rfl ?_
    refine WL.nilCheck rfl rfl ?_
    refine WL.fieldR (off := 1) Try.underlying92 rfl rfl Try.sizeOf3 rfl rfl rfl ?_
    refine WL.move rfl rfl ?_
    exact Chain.end_ rfl
  apply DG.take [3, 4, 8, 9] 0 rfl (by kernel_rfl) (by kernel_rfl) (M.sel (by first | ((repeat (first | with_reducible exact Sel.refl | with_reducible exact Sel.nil | with_reducible exact Del.here | with_reducible apply Del.there | with_reducible apply Sel.cons | with_reducible apply Sel.drop)); done) | (repeat (first | exact Sel.refl | exact Sel.nil | exact Del.here | apply Del.there | apply Sel.cons | apply Sel.drop))))
  · intro w M
    refine WL.loadR Try.isAgg90 rfl M (by first | ((repeat (first | with_reducible exact Has.here | with_reducible refine Has.there ?_)); done) | (repeat (first | exact Has.here | refine Has.there ?_))) rfl rfl ?_
    refine WL.len Try.underlying90 rfl rfl ?_
    refine WL.loadR Try.isAgg3 rfl M (by first | ((repeat (first | with_reducible exact Has.here | with_reducible refine Has.there ?_)); done) | (repeat (first | exact Has.here | refine Has.there ?_))) rfl rfl ?_
    skip
    refine WL.min rfl rfl rfl ?_
    exact Chain.end_ rfl
  refine DG.end_ (by kernel_rfl) ?_
  refine WX.next ?_
  refine W.sub [(0, _), (3, _), (24, _), (25, _)] (.cons rfl (.cons rfl (.cons rfl (.cons rfl .nil)))) ?_
  refine W.block ?_
  refine W.loop (ι := (Nat × List PX × List SX) × (Option Addr × Nat)) (fun s => [(0, .pointer (some ⟨g, 0, none⟩)), (3, .slice s.2.1 s.1.2.2.length s.2.2), (24, .int .i64 (min ps.length window : Nat)), (25, .int .i64 (s.1.1 : Int))]) (fun i w => Mem w0 w ((fun s => Asr.row g 92 [.int .u64 (life : Int), .int .i64 (window : Int), .int .i64 (span : Int), .int .u64 (acked : Int), .int .i64 ((now + 1 : Nat) : Int), .slice B ps.length cB] :: Asr.lst pieceE B cB s.1.2.1 :: Asr.star (ps.map PX.O) :: Asr.lst segE s.2.1 s.2.2 s.1.2.2 :: Asr.star (s.1.2.2.map SX.O) :: L') i) ∧ (fun s => s.1.1 ≤ min ps.length window ∧ s.1.2.1.length = ps.length ∧ (∀ j, j < ps.length → (el s.1.2.1 j).x = (el ps j).x ∧ (el s.1.2.1 j).sent = if j < s.1.1 ∧ due span (now + 1) (el l j) then now + 1 else (el ps j).sent) ∧ s.1.2.2.map SX.key = outTo life acked span (now + 1) l s.1.1) i) (fun s => min ps.length window - s.1.1) (((0, ps, []), (none, 0))) (by (repeat' (first | exact envSub.nil | refine envSub.cons ?_ ?_)) <;> first | rfl | (refine congrArg some ?_; refine congrArg (Value.int _) ?_; first | omega | (dsimp only; omega)) | (simp; done) | (refine congrArg some ?_; dsimp only; congr 1; omega) | (simp; omega)) ⟨(Mem.nilOwn (M.starNil) _ _).sel (by first | ((repeat (first | with_reducible exact Sel.refl | with_reducible exact Sel.nil | with_reducible exact Del.here | with_reducible apply Del.there | with_reducible apply Sel.cons | with_reducible apply Sel.drop)); done) | (repeat (first | exact Sel.refl | exact Sel.nil | exact Del.here | apply Del.there | apply Sel.cons | apply Sel.drop))), ⟨by simp, rfl, (fun j hj => ⟨rfl, by simp⟩), rfl⟩⟩ ?_
  clear M; rintro (⟨⟨i, qs, outs⟩, Ao, co⟩) w ⟨M, ⟨hi, hq, hqs, ho⟩⟩; dsimp only at M hi hq hqs ho ⊢
  refine W.sub [(0, _), (3, _), (24, _), (25, _)] (.cons rfl (.cons rfl (.cons rfl (.cons rfl .nil)))) ?_
  refine W.seq ?_
  refine W.region ?_
  refine WL.lss rfl rfl rfl ?_
  refine WL.nil ?_
  refine WX.next ?_
  refine W.sub [(0, _), (3, _), (24, _), (25, _), (26, _)] (.cons rfl (.cons rfl (.cons rfl (.cons rfl (.cons rfl .nil))))) ?_
  refine W.seq ?_
  refine W.ite rfl (fun c1 => ?_) (fun c1 => ?_)
  · have hin : i < ps.length := by omega
    obtain ⟨hqx, hqt⟩ := hqs i hin
    rw [if_neg (fun h => absurd h.1 (Nat.lt_irrefl _))] at hqt
    have hst := hsent _ (hmem i hin)
    have hbd := hbody _ (hmem i hin)
    rw [hkey i hin] at hst hbd
    dsimp only at hst hbd
    have hdue : due span (now + 1) (el l i) = !(decide (0 < (el qs i).sent) && decide (((now + 1 : Nat) : Int) - ((el qs i).sent : Int) < (span : Int))) := by rw [hkey i hin, hqt]; rfl
    refine W.skip ?_
    refine WX.next ?_
    refine W.seq ?_
    refine W.block ?_
    refine W.seq ?_
    refine W.region ?_
    refine WL.move rfl rfl ?_
    refine WL.assign rfl rfl ?_
    refine WL.nil ?_
    refine WX.next ?_
    refine W.sub [(0, _), (3, _), (4, _), (24, _), (25, _)] (.cons rfl (.cons rfl (.cons rfl (.cons rfl (.cons rfl .nil))))) ?_
    refine W.seq ?_
    refine W.region ?_
    refine WL.move rfl rfl ?_
    refine WL.nilCheck rfl rfl ?_
    refine WL.fieldR (off := 5) Try.underlying92 rfl rfl Try.sizeOf90 rfl rfl rfl ?_
    refine WL.loadR Try.isAgg90 rfl M (by first | ((repeat (first | with_reducible exact Has.here | with_reducible refine Has.there ?_)); done) | (repeat (first | exact Has.here | refine Has.there ?_))) rfl rfl ?_
    refine WL.move rfl rfl ?_
    refine WL.idxA Try.underlying90 Try.sizeOf94 rfl rfl (RdL.isSome (E := pieceE) (by first | with_reducible assumption | with_reducible exact RdL.mem (by with_reducible assumption) M | exact M.rdL (by first | ((repeat (first | with_reducible exact Has.here | with_reducible refine Has.there ?_)); done) | (repeat (first | exact Has.here | refine Has.there ?_))) | exact RdLH.at (by assumption) (M.sel (by first | ((repeat (first | with_reducible exact Sel.refl | with_reducible exact Sel.nil | with_reducible exact Del.here | with_reducible apply Del.there | with_reducible apply Sel.cons | with_reducible apply Sel.drop)); done) | (repeat (first | exact Sel.refl | exact Sel.nil | exact Del.here | apply Del.there | apply Sel.cons | apply Sel.drop)))) | exact RdL.nil _ _ _) (by omega)) (by omega) (by omega) (by first | exact rfl | exact (Int.toNat_of_nonneg (by omega)).symm) rfl ?_
    refine WL.assign rfl rfl ?_
    refine WL.nil ?_
    refine WX.next ?_
    refine W.sub [(0, _), (3, _), (4, _), (5, _), (24, _), (25, _)] (.cons rfl (.cons rfl (.cons rfl (.cons rfl (.cons rfl (.cons rfl .nil)))))) ?_
    refine W.joint (fun (_ : Unit) => [(0, .pointer (some ⟨g, 0, none⟩)), (3, .slice Ao outs.length co), (4, .int .i64 (i : Int)), (5, .pointer (some (atA B (i * 2)))), (24, .int .i64 (min ps.length window : Nat)), (25, .int .i64 (i : Int))]) (fun j w => Mem w0 w ((fun _ => Asr.row g 92 [.int .u64 (life : Int), .int .i64 (window : Int), .int .i64 (span : Int), .int .u64 (acked : Int), .int .i64 ((now + 1 : Nat) : Int), .slice B ps.length cB] :: Asr.lst pieceE B cB qs :: Asr.star (ps.map PX.O) :: Asr.lst segE Ao co outs :: Asr.star (outs.map SX.O) :: L') j) ∧ (fun _ => due span (now + 1) (el l i) = true) j) ?_ ?_
    · refine W.seq ?_
      refine W.drawM (_) (by kernel_rfl) (fun j => [6, 7, 8, 9, 10, 11, 12, 13, 14, 15, 16, 17, 18].contains j) M Sel.refl ?_
      clear M; intro M
      apply DG.pure_ [0, 1, 2] 18 rfl (by kernel_rfl) (by kernel_rfl)
      · intro w
        refine WL.move rfl rfl ?_
        refine WL.nilCheck rfl rfl ?_
        refine WL.fieldA (off := 1) Try.underlying94 rfl rfl Try.sizeOf3 rfl rfl rfl ?_
        exact Chain.end_ rfl
      apply DG.take [3, 4] 16 rfl (by kernel_rfl) (by kernel_rfl) (M.sel (by first | ((repeat (first | with_reducible exact Sel.refl | with_reducible exact Sel.nil | with_reducible exact Del.here | with_reducible apply Del.there | with_reducible apply Sel.cons | with_reducible apply Sel.drop)); done) | (repeat (first | exact Sel.refl | exact Sel.nil | exact Del.here | apply Del.there | apply Sel.cons | apply Sel.drop))))
      · intro w M
        refine WL.loadE (E := pieceE) Try.isAgg3 rfl (by first | with_reducible assumption | with_reducible exact RdL.mem (by with_reducible assumption) M | exact M.rdL (by first | ((repeat (first | with_reducible exact Has.here | with_reducible refine Has.there ?_)); done) | (repeat (first | exact Has.here | refine Has.there ?_))) | exact RdLH.at (by assumption) (M.sel (by first | ((repeat (first | with_reducible exact Sel.refl | with_reducible exact Sel.nil | with_reducible exact Del.here | with_reducible apply Del.there | with_reducible apply Sel.cons | with_reducible apply Sel.drop)); done) | (repeat (first | exact Sel.refl | exact Sel.nil | exact Del.here | apply Del.there | apply Sel.cons | apply Sel.drop)))) | exact RdL.nil _ _ _) (by omega) rfl rfl ?_
        refine WL.gtr rfl rfl rfl ?_
        exact Chain.end_ rfl
      refine DG.knowP (t := 38) rfl (fun c2 => ?_) (fun c2 => ?_)
      · apply DG.pure_ [5] 15 rfl (by kernel_rfl) (by kernel_rfl)
        · intro w
          refine WL.move rfl rfl ?_
          exact Chain.end_ rfl
        apply DG.take [6, 7, 8, 9, 10, 11, 12, 13, 14, 15, 16, 17, 18, 19, 20] 0 rfl (by kernel_rfl) (by kernel_rfl) (M.sel (by first | ((repeat (first | with_reducible exact Sel.refl | with_reducible exact Sel.nil | with_reducible exact Del.here | with_reducible apply Del.there | with_reducible apply Sel.cons | with_reducible apply Sel.drop)); done) | (repeat (first | exact Sel.refl | exact Sel.nil | exact Del.here | apply Del.there | apply Sel.cons | apply Sel.drop))))
        · intro w M
          refine WL.on rfl rfl ?_
          refine WL.move rfl rfl ?_
          refine WL.on rfl rfl ?_
          refine WL.nilCheck rfl rfl ?_
          refine WL.on rfl rfl ?_
          refine WL.fieldR (off := 4) Try.underlying92 rfl rfl Try.sizeOf3 rfl rfl rfl ?_
          refine WL.on rfl rfl ?_
          refine WL.loadR Try.isAgg3 rfl M (by first | ((repeat (first | with_reducible exact Has.here | with_reducible refine Has.there ?_)); done) | (repeat (first | exact Has.here | refine Has.there ?_))) rfl rfl ?_
          refine WL.on rfl rfl ?_
          refine WL.move rfl rfl ?_
          refine WL.on rfl rfl ?_
          refine WL.nilCheck rfl rfl ?_
          refine WL.on rfl rfl ?_
          refine WL.fieldA (off := 1) Try.underlying94 rfl rfl Try.sizeOf3 rfl rfl rfl ?_
          refine WL.on rfl rfl ?_
          refine WL.loadE (E := pieceE) Try.isAgg3 rfl (by first | with_reducible assumption | with_reducible exact RdL.mem (by with_reducible assumption) M | exact M.rdL (by first | ((repeat (first | with_reducible exact Has.here | with_reducible refine Has.there ?_)); done) | (repeat (first | exact Has.here | refine Has.there ?_))) | exact RdLH.at (by assumption) (M.sel (by first | ((repeat (first | with_reducible exact Sel.refl | with_reducible exact Sel.nil | with_reducible exact Del.here | with_reducible apply Del.there | with_reducible apply Sel.cons | with_reducible apply Sel.drop)); done) | (repeat (first | exact Sel.refl | exact Sel.nil | exact Del.here | apply Del.there | apply Sel.cons | apply Sel.drop)))) | exact RdL.nil _ _ _) (by omega) rfl rfl ?_
          refine WL.on rfl rfl ?_
          refine WL.sub' rfl rfl (by first | exact wI64 (by omega) | rfl) rfl ?_
          refine WL.on rfl rfl ?_
          refine WL.move rfl rfl ?_
          refine WL.on rfl rfl ?_
          refine WL.nilCheck rfl rfl ?_
          refine WL.on rfl rfl ?_
          refine WL.fieldR (off := 2) Try.underlying92 rfl rfl Try.sizeOf3 rfl rfl rfl ?_
          refine WL.on rfl rfl ?_
          refine WL.loadR Try.isAgg3 rfl M (by first | ((repeat (first | with_reducible exact Has.here | with_reducible refine Has.there ?_)); done) | (repeat (first | exact Has.here | refine Has.there ?_))) rfl rfl ?_
          refine WL.on rfl rfl ?_
          refine WL.lss rfl rfl rfl ?_
          refine WL.pickT rfl rfl rfl ?_
          exact Chain.end_ rfl
        refine DG.end_ (by kernel_rfl) ?_
        refine WX.next ?_
        refine W.sub [(0, _), (3, _), (4, _), (5, _), (24, _), (25, _), (54, _)] (.cons rfl (.cons rfl (.cons rfl (.cons rfl (.cons rfl (.cons rfl (.cons rfl .nil))))))) ?_
        refine W.ite rfl (fun c3 => ?_) (fun c3 => ?_)
        · refine W.exit ?_
          refine WX.thenExit ?_
          refine WX.blockHere ?_
          refine WX.next ?_
          refine W.region ?_
          refine WL.add rfl rfl (by first | exact wI64 (by omega) | rfl) rfl ?_
          refine WL.move rfl rfl ?_
          refine WL.nil ?_
          have hd0 : due span (now + 1) (el l i) = false := by rw [hdue]; simp; omega
          have q1 : ∀ j, j < ps.length → (el qs j).x = (el ps j).x ∧ (el qs j).sent = if j < i + 1 ∧ due span (now + 1) (el l j) then now + 1 else (el ps j).sent := by
            intro j hj
            obtain ⟨h1, h2⟩ := hqs j hj
            refine ⟨h1, ?_⟩
            rw [h2]
            by_cases e : j = i
            · subst e; rw [hd0]; simp
            · have : (j < i + 1) = (j < i) := by apply propext; omega
              simp only [this]
          have q2 : outs.map SX.key = outTo life acked span (now + 1) l (i + 1) := by rw [outTo, hd0, ho]; simp
          refine WX.round (((i + 1, qs, outs), (Ao, co))) (by (repeat' (first | exact envSub.nil | refine envSub.cons ?_ ?_)) <;> first | rfl | (refine congrArg some ?_; refine congrArg (Value.int _) ?_; first | omega | (dsimp only; omega)) | (simp; done) | (refine congrArg some ?_; dsimp only; congr 1; omega) | (simp; omega)) ⟨M.sel (by first | ((repeat (first | with_reducible exact Sel.refl | with_reducible exact Sel.nil | with_reducible exact Del.here | with_reducible apply Del.there | with_reducible apply Sel.cons | with_reducible apply Sel.drop)); done) | (repeat (first | exact Sel.refl | exact Sel.nil | exact Del.here | apply Del.there | apply Sel.cons | apply Sel.drop))), ⟨by dsimp only; omega, hq, q1, q2⟩⟩ (by first | omega | (dsimp only; omega))
        · refine W.skip ?_
          refine WX.join (()) (by (repeat' (first | exact envSub.nil | refine envSub.cons ?_ ?_)) <;> first | rfl | (refine congrArg some ?_; refine congrArg (Value.int _) ?_; first | omega | (dsimp only; omega)) | (simp; done) | (refine congrArg some ?_; dsimp only; congr 1; omega) | (simp; omega)) ⟨M.sel (by first | ((repeat (first | with_reducible exact Sel.refl | with_reducible exact Sel.nil | with_reducible exact Del.here | with_reducible apply Del.there | with_reducible apply Sel.cons | with_reducible apply Sel.drop)); done) | (repeat (first | exact Sel.refl | exact Sel.nil | exact Del.here | apply Del.there | apply Sel.cons | apply Sel.drop))), by rw [hdue]; simp; omega⟩
      · apply DG.pure_ [5] 15 rfl (by kernel_rfl) (by kernel_rfl)
        · intro w
          refine WL.move rfl rfl ?_
          exact Chain.end_ rfl
        apply DG.take [6, 7, 8, 9, 10, 11, 12, 13, 14, 15, 16, 17, 18, 19, 20] 0 rfl (by kernel_rfl) (by kernel_rfl) (M.sel (by first | ((repeat (first | with_reducible exact Sel.refl | with_reducible exact Sel.nil | with_reducible exact Del.here | with_reducible apply Del.there | with_reducible apply Sel.cons | with_reducible apply Sel.drop)); done) | (repeat (first | exact Sel.refl | exact Sel.nil | exact Del.here | apply Del.there | apply Sel.cons | apply Sel.drop))))
        · intro w M
          refine WL.off rfl rfl rfl rfl ?_
          refine WL.off rfl rfl rfl rfl ?_
          refine WL.off rfl rfl rfl rfl ?_
          refine WL.off rfl rfl rfl rfl ?_
          refine WL.off rfl rfl rfl rfl ?_
          refine WL.off rfl rfl rfl rfl ?_
          refine WL.off rfl rfl rfl rfl ?_
          refine WL.off rfl rfl rfl rfl ?_
          refine WL.off rfl rfl rfl rfl ?_
          refine WL.off rfl rfl rfl rfl ?_
          refine WL.off rfl rfl rfl rfl ?_
          refine WL.off rfl rfl rfl rfl ?_
          refine WL.off rfl rfl rfl rfl ?_
          refine WL.off rfl rfl rfl rfl ?_
          refine WL.pickF rfl rfl rfl ?_
          exact Chain.end_ rfl
        refine DG.end_ (by kernel_rfl) ?_
        refine WX.next ?_
        refine W.sub [(0, _), (3, _), (4, _), (5, _), (24, _), (25, _), (54, _)] (.cons rfl (.cons rfl (.cons rfl (.cons rfl (.cons rfl (.cons rfl (.cons rfl .nil))))))) ?_
        refine W.condF rfl ?_
        refine W.skip ?_
        refine WX.join (()) (by (repeat' (first | exact envSub.nil | refine envSub.cons ?_ ?_)) <;> first | rfl | (refine congrArg some ?_; refine congrArg (Value.int _) ?_; first | omega | (dsimp only; omega)) | (simp; done) | (refine congrArg some ?_; dsimp only; congr 1; omega) | (simp; omega)) ⟨M.sel (by first | ((repeat (first | with_reducible exact Sel.refl | with_reducible exact Sel.nil | with_reducible exact Del.here | with_reducible apply Del.there | with_reducible apply Sel.cons | with_reducible apply Sel.drop)); done) | (repeat (first | exact Sel.refl | exact Sel.nil | exact Del.here | apply Del.there | apply Sel.cons | apply Sel.drop))), by rw [hdue]; simp; omega⟩
    clear M; rintro (_) w ⟨M, hd1⟩; dsimp only at M hd1 ⊢
    refine W.sub [(0, _), (3, _), (4, _), (5, _), (24, _), (25, _)] (.cons rfl (.cons rfl (.cons rfl (.cons rfl (.cons rfl (.cons rfl .nil)))))) ?_
    refine W.seq ?_
    refine W.region ?_
    refine WL.move rfl rfl ?_
    refine WL.move rfl rfl ?_
    refine WL.nilCheck rfl rfl ?_
    refine WL.fieldR (off := 4) Try.underlying92 rfl rfl Try.sizeOf3 rfl rfl rfl ?_
    refine WL.loadR Try.isAgg3 rfl M (by first | ((repeat (first | with_reducible exact Has.here | with_reducible refine Has.there ?_)); done) | (repeat (first | exact Has.here | refine Has.there ?_))) rfl rfl ?_
    refine WL.nilCheck rfl rfl ?_
    refine WL.fieldA (off := 1) Try.underlying94 rfl rfl Try.sizeOf3 rfl rfl rfl ?_
    refine WL.storeE (E := pieceE) (x' := ⟨(el qs i).x, now + 1⟩) Try.sizeOf3 rfl rfl rfl M (by first | ((repeat (first | with_reducible exact Has.here | with_reducible refine Has.there ?_)); done) | (repeat (first | exact Has.here | refine Has.there ?_))) (by omega) (by repeat (first | exact SetAt.zero | apply SetAt.succ)) (by first | ((repeat (first | with_reducible exact Upd.here | with_reducible apply Upd.there)); done) | (repeat (first | exact Upd.here | apply Upd.there))) ?_
    intro w M
    obtain ⟨qs2, hqs2⟩ : ∃ q, q = qs.set i ⟨(el qs i).x, now + 1⟩ := ⟨_, rfl⟩
    rw [← hqs2] at M
    have hq2l : qs2.length = qs.length := by rw [hqs2]; simp
    have hq2 : ∀ j, el qs2 j = if i = j then ⟨(el qs i).x, now + 1⟩ else el qs j := fun j => by rw [hqs2, el_set _ _ _ _ (by omega)]
    have hq2x : (el qs2 i).x = (el ps i).x := by rw [hq2, if_pos rfl]; exact hqx
    refine WL.nil ?_
    refine WX.next ?_
    refine W.sub [(0, _), (3, _), (4, _), (5, _), (24, _), (25, _)] (.cons rfl (.cons rfl (.cons rfl (.cons rfl (.cons rfl (.cons rfl .nil)))))) ?_
    refine W.drawM (_) (by kernel_rfl) (fun j => [4, 8, 11, 12, 13, 17, 18].contains j) M Sel.refl ?_
    clear M; intro M
    apply DG.pure_ [0, 1, 2, 3, 5, 6, 7, 9, 10, 14, 15, 16] 11 rfl (by kernel_rfl) (by kernel_rfl)
    · intro w
      refine WL.move rfl rfl ?_
      refine WL.move rfl rfl ?_
      refine WL.nilCheck rfl rfl ?_
      refine WL.fieldR (off := 0) Try.underlying92 rfl rfl Try.sizeOf22 rfl rfl rfl ?_
      refine WL.move rfl rfl ?_
      refine WL.nilCheck rfl rfl ?_
      refine WL.fieldR (off := 3) Try.underlying92 rfl rfl Try.sizeOf22 rfl rfl rfl ?_
      refine WL.move rfl rfl ?_
      refine WL.conv Try.underlying3 Try.underlying22 rfl (by first | exact wU64 (by omega) | exact mU64 _ | rfl) rfl ?_
      refine WL.move rfl rfl ?_
      refine WL.nilCheck rfl rfl ?_
      refine WL.fieldA (off := 0) Try.underlying94 rfl rfl Try.sizeOf34 rfl rfl rfl ?_
      exact Chain.end_ rfl
    apply DG.take [4, 8, 11, 12, 17] 6 rfl (by kernel_rfl) (by kernel_rfl) (M.sel (by first | ((repeat (first | with_reducible exact Sel.refl | with_reducible exact Sel.nil | with_reducible exact Del.here | with_reducible apply Del.there | with_reducible apply Sel.cons | with_reducible apply Sel.drop)); done) | (repeat (first | exact Sel.refl | exact Sel.nil | exact Del.here | apply Del.there | apply Sel.cons | apply Sel.drop))))
    · intro w M
      refine WL.loadR Try.isAgg22 rfl M (by first | ((repeat (first | with_reducible exact Has.here | with_reducible refine Has.there ?_)); done) | (repeat (first | exact Has.here | refine Has.there ?_))) rfl rfl ?_
      refine WL.loadR Try.isAgg22 rfl M (by first | ((repeat (first | with_reducible exact Has.here | with_reducible refine Has.there ?_)); done) | (repeat (first | exact Has.here | refine Has.there ?_))) rfl rfl ?_
      refine WL.add rfl rfl (by first | exact wU64 (by omega) | exact mU64 _ | rfl) rfl ?_
      refine WL.add rfl rfl (show IntKind.u64.wrap ((acked : Int) + (i : Int) + 1) = ((acked + i + 1 : Nat) : Int) by rw [wU64 (by omega)]; omega) rfl ?_
      refine WL.loadE (E := pieceE) Try.isAgg34 rfl (by first | with_reducible assumption | with_reducible exact RdL.mem (by with_reducible assumption) M | exact M.rdL (by first | ((repeat (first | with_reducible exact Has.here | with_reducible refine Has.there ?_)); done) | (repeat (first | exact Has.here | refine Has.there ?_))) | exact RdLH.at (by assumption) (M.sel (by first | ((repeat (first | with_reducible exact Sel.refl | with_reducible exact Sel.nil | with_reducible exact Del.here | with_reducible apply Del.there | with_reducible apply Sel.cons | with_reducible apply Sel.drop)); done) | (repeat (first | exact Sel.refl | exact Sel.nil | exact Del.here | apply Del.there | apply Sel.cons | apply Sel.drop)))) | exact RdL.nil _ _ _) (by omega) rfl rfl ?_
      exact Chain.end_ rfl
    refine DG.step 13 5 rfl (by kernel_rfl) ?_
    refine WL.buildB (es := []) Try.elem5 M rfl rfl (by exact BytesOf.nil) (by rfl) rfl rfl ?_
    intro g11_13 w M
    refine DG.go (G := fun j => [4, 8, 11, 12, 13, 17, 18].contains j) (i := 13) (f' := 5) (done := [0, 1, 2, 3, 5, 6, 7, 9, 10, 14, 15, 16, 4, 8, 11, 12, 17]) (fun _ => M.sel (by first | ((repeat (first | with_reducible exact Sel.refl | with_reducible exact Sel.nil | with_reducible exact Del.here | with_reducible apply Del.there | with_reducible apply Sel.cons | with_reducible apply Sel.drop)); done) | (repeat (first | exact Sel.refl | exact Sel.nil | exact Del.here | apply Del.there | apply Sel.cons | apply Sel.drop)))) ?_
    refine DG.step 18 4 rfl (by kernel_rfl) ?_
    refine WL.appendBN Try.elem5 rfl rfl M (by first | ((repeat (first | with_reducible exact Del.here | with_reducible apply Del.there)); done) | (repeat (first | exact Del.here | apply Del.there))) (by rw [hq2x]; exact ownRd (M.starHas (f := PX.O) (by first | ((repeat (first | with_reducible exact Has.here | with_reducible refine Has.there ?_)); done) | (repeat (first | exact Has.here | refine Has.there ?_))) (el_mem hin))) rfl rfl (by rw [hq2x]; omega) rfl ?_
    intro A11_18 cap11_18 w M
    refine DG.go (G := fun j => [4, 8, 11, 12, 13, 17, 18].contains j) (i := 18) (f' := 4) (done := [0, 1, 2, 3, 5, 6, 7, 9, 10, 14, 15, 16, 4, 8, 11, 12, 17, 13]) (fun _ => M.sel (by first | ((repeat (first | with_reducible exact Sel.refl | with_reducible exact Sel.nil | with_reducible exact Del.here | with_reducible apply Del.there | with_reducible apply Sel.cons | with_reducible apply Sel.drop)); done) | (repeat (first | exact Sel.refl | exact Sel.nil | exact Del.here | apply Del.there | apply Sel.cons | apply Sel.drop)))) ?_
    apply DG.pure_ [19] 3 rfl (by kernel_rfl) (by kernel_rfl)
    · intro w
      refine WL.buildP (places := #[(0, 1), (1, 1), (2, 1), (3, 1)]) Try.underlying36 Try.zeroValue36 (fun _ => by simp [Try.sizeOf22, Try.sizeOf22, Try.sizeOf4, Try.sizeOf34]) rfl (by repeat (first | exact Puts.nil | exact SetAt.zero | apply SetAt.succ | apply Puts.cons rfl rfl)) rfl ?_
      exact Chain.end_ rfl
    refine DG.step 20 2 rfl (by kernel_rfl) ?_
    refine WL.buildL (E := segE) (l := [⟨life, acked + i + 1, false, ⟨A11_18, cap11_18, (el qs2 i).x.l⟩⟩]) Try.elem36 M rfl rfl rfl rfl rfl rfl ?_
    intro g11_20 w M
    refine DG.go (G := fun j => [4, 8, 11, 12, 13, 17, 18].contains j) (i := 20) (f' := 2) (done := [0, 1, 2, 3, 5, 6, 7, 9, 10, 14, 15, 16, 4, 8, 11, 12, 17, 13, 18, 19]) (fun h => by cases h) ?_
    refine DG.step 21 1 rfl (by kernel_rfl) ?_
    refine WL.appendL (E := segE) Try.elem36 rfl rfl M (by first | ((repeat (first | with_reducible exact Del.here | with_reducible apply Del.there)); done) | (repeat (first | exact Del.here | apply Del.there))) (by first | with_reducible assumption | with_reducible exact RdL.mem (by with_reducible assumption) M | exact M.rdL (by first | ((repeat (first | with_reducible exact Has.here | with_reducible refine Has.there ?_)); done) | (repeat (first | exact Has.here | refine Has.there ?_))) | exact RdLH.at (by assumption) (M.sel (by first | ((repeat (first | with_reducible exact Sel.refl | with_reducible exact Sel.nil | with_reducible exact Del.here | with_reducible apply Del.there | with_reducible apply Sel.cons | with_reducible apply Sel.drop)); done) | (repeat (first | exact Sel.refl | exact Sel.nil | exact Del.here | apply Del.there | apply Sel.cons | apply Sel.drop)))) | exact RdL.nil _ _ _) rfl rfl (by have h1 := outTo_key_len life acked span (now + 1) l i; rw [← ho, List.length_map] at h1; simp; omega) (by have h1 := outTo_key_len life acked span (now + 1) l i; rw [← ho, List.length_map] at h1; simp [maxLen]; omega) rfl ?_
    intro A11_21 cap11_21 w M
    refine DG.go (G := fun j => [4, 8, 11, 12, 13, 17, 18].contains j) (i := 21) (f' := 1) (done := [0, 1, 2, 3, 5, 6, 7, 9, 10, 14, 15, 16, 4, 8, 11, 12, 17, 13, 18, 19, 20]) (fun h => by cases h) ?_
    apply DG.pure_ [22] 0 rfl (by kernel_rfl) (by kernel_rfl)
    · intro w
      refine WL.assign rfl rfl ?_
      exact Chain.end_ rfl
    refine DG.end_ (by kernel_rfl) ?_
    refine WX.blockNormal ?_
    refine WX.next ?_
    refine W.sub [(0, _), (3, _), (24, _), (25, _)] (.cons rfl (.cons rfl (.cons rfl (.cons rfl .nil)))) ?_
    refine W.region ?_
    refine WL.add rfl rfl (by first | exact wI64 (by omega) | rfl) rfl ?_
    refine WL.move rfl rfl ?_
    refine WL.nil ?_
    skip
    have q1 : ∀ j, j < ps.length → (el qs2 j).x = (el ps j).x ∧ (el qs2 j).sent = if j < i + 1 ∧ due span (now + 1) (el l j) then now + 1 else (el ps j).sent := by
      intro j hj
      obtain ⟨h1, h2⟩ := hqs j hj
      rw [hq2]
      by_cases e : i = j
      · subst e; rw [if_pos rfl, if_pos ⟨by omega, hd1⟩]; exact ⟨hqx, rfl⟩
      · rw [if_neg e]
        refine ⟨h1, ?_⟩
        rw [h2]
        have : (j < i + 1) = (j < i) := by apply propext; omega
        simp only [this]
    have q2 : (outs ++ [(⟨life, acked + i + 1, false, ⟨A11_18, cap11_18, (el qs2 i).x.l⟩⟩ : SX)]).map SX.key = outTo life acked span (now + 1) l (i + 1) := by
      rw [outTo, hd1, if_pos rfl, List.map_append, ho, hkey i hin, hq2x]
      rfl
    replace M : Mem w0 w (Asr.star ((outs ++ [(⟨life, acked + i + 1, false, ⟨A11_18, cap11_18, (el qs2 i).x.l⟩⟩ : SX)]).map SX.O) :: Asr.row g 92 [.int .u64 (life : Int), .int .i64 (window : Int), .int .i64 (span : Int), .int .u64 (acked : Int), .int .i64 ((now + 1 : Nat) : Int), .slice B ps.length cB] :: Asr.lst pieceE B cB qs2 :: Asr.star (ps.map PX.O) :: Asr.lst segE A11_21 cap11_21 (outs ++ [(⟨life, acked + i + 1, false, ⟨A11_18, cap11_18, (el qs2 i).x.l⟩⟩ : SX)]) :: L') := by
      rw [List.map_append]
      exact Mem.starSnoc (A := SX.O ⟨life, acked + i + 1, false, ⟨A11_18, cap11_18, (el qs2 i).x.l⟩⟩) (M.sel (K := Asr.own 5 1 A11_18 (el qs2 i).x.l.length cap11_18 (bs (el qs2 i).x.l) :: Asr.star (outs.map SX.O) :: Asr.row g 92 [.int .u64 (life : Int), .int .i64 (window : Int), .int .i64 (span : Int), .int .u64 (acked : Int), .int .i64 ((now + 1 : Nat) : Int), .slice B ps.length cB] :: Asr.lst pieceE B cB qs2 :: Asr.star (ps.map PX.O) :: Asr.lst segE A11_21 cap11_21 (outs ++ [(⟨life, acked + i + 1, false, ⟨A11_18, cap11_18, (el qs2 i).x.l⟩⟩ : SX)]) :: L') (by first | ((repeat (first | with_reducible exact Sel.refl | with_reducible exact Sel.nil | with_reducible exact Del.here | with_reducible apply Del.there | with_reducible apply Sel.cons | with_reducible apply Sel.drop)); done) | (repeat (first | exact Sel.refl | exact Sel.nil | exact Del.here | apply Del.there | apply Sel.cons | apply Sel.drop))))
    refine WX.round (((i + 1, qs2, outs ++ [⟨life, acked + i + 1, false, ⟨A11_18, cap11_18, (el qs2 i).x.l⟩⟩]), (A11_21, cap11_21))) (by (repeat' (first | exact envSub.nil | refine envSub.cons ?_ ?_)) <;> first | rfl | (refine congrArg some ?_; refine congrArg (Value.int _) ?_; first | omega | (dsimp only; omega)) | (simp; done) | (refine congrArg some ?_; dsimp only; congr 1; omega) | (simp; omega)) ⟨M.sel (by first | ((repeat (first | with_reducible exact Sel.refl | with_reducible exact Sel.nil | with_reducible exact Del.here | with_reducible apply Del.there | with_reducible apply Sel.cons | with_reducible apply Sel.drop)); done) | (repeat (first | exact Sel.refl | exact Sel.nil | exact Del.here | apply Del.there | apply Sel.cons | apply Sel.drop))), ⟨by dsimp only; omega, by dsimp only; omega, q1, q2⟩⟩ (by first | omega | (dsimp only; omega))
  · have hik : i = min ps.length window := by omega
    have hst : (⟨g, B, cB, qs, tickS ⟨life, window, span, acked, now, l⟩⟩ : SnX).is := by
      show qs.map PX.key = sentTo span (now + 1) (min l.length window) l
      refine ext_el (by simp [sentTo_length, hq, hlen]) fun j hj => ?_
      rw [List.length_map] at hj
      rw [el_map _ hj, hlen, ← hik]
      obtain ⟨h1, h2⟩ := hqs j (by omega)
      have e : el (sentTo span (now + 1) i l) j = if j < i ∧ due span (now + 1) (el l j) then ((el l j).1, now + 1) else el l j := by
        unfold sentTo
        rw [el, List.getElem?_map, List.getElem?_range (by omega)]
        rfl
      rw [e, PX.key, h1, h2, hkey j (by omega)]
      split <;> rfl
    have hstar : qs.map PX.O = ps.map PX.O := by
      apply List.ext_getElem?
      intro j
      rw [List.getElem?_map, List.getElem?_map]
      by_cases hj : j < ps.length
      · rw [el_get (show j < qs.length by omega), el_get hj]
        simp only [Option.map_some, PX.O, (hqs j hj).1]
      · rw [List.getElem?_eq_none (by omega), List.getElem?_eq_none (by omega)]
    refine W.exit ?_
    refine WX.thenExit ?_
    refine WX.thenExit ?_
    refine WX.blockHere ?_
    refine WX.next ?_
    refine W.seq ?_
    refine W.region ?_
    refine WL.move rfl rfl ?_
    refine WL.assign rfl rfl ?_
    refine WL.nil ?_
    refine WX.next ?_
    refine W.sub [(2, _)] (.cons rfl .nil) ?_
    refine W.ret ?_
    refine WX.ret1 rfl rfl ?_
    refine ⟨⟨g, B, cB, qs, tickS ⟨life, window, span, acked, now, l⟩⟩, Ao, co, outs, rfl, rfl, rfl, hst, by rw [ho, hik, ← hlen]; rfl, ?_⟩
    have M2 := Mem.star3 (M.sel (K := Asr.row g 92 [.int .u64 (life : Int), .int .i64 (window : Int), .int .i64 (span : Int), .int .u64 (acked : Int), .int .i64 ((now + 1 : Nat) : Int), .slice B ps.length cB] :: Asr.lst pieceE B cB qs :: Asr.star (ps.map PX.O) :: Asr.lst segE Ao co outs :: Asr.star (outs.map SX.O) :: L') (by first | ((repeat (first | with_reducible exact Sel.refl | with_reducible exact Sel.nil | with_reducible exact Del.here | with_reducible apply Del.there | with_reducible apply Sel.cons | with_reducible apply Sel.drop)); done) | (repeat (first | exact Sel.refl | exact Sel.nil | exact Del.here | apply Del.there | apply Sel.cons | apply Sel.drop))))
    rw [← hstar, ← hq] at M2
    exact Mem.f2 (Mem.f2 M2)

set_option maxRecDepth 10000 in
theorem HearS_ok (x : SnX) (hx : x.is) (hs : x.s.ok) (q : SX) (hq : q.seq < 18446744073709551616) (w0 w : World) (L L' : List Asr) (M : Mem w0 w L) (hd : Del x.O L L') :
    Fn Try.prog 22 [x.p, q.v] w fun v w' => ∃ x' : SnX, v = .int .i64 (hearE x.s q.key) ∧ x'.g = x.g ∧ x'.s = hearS x.s q.key ∧ x'.is ∧ Mem w0 w' (x'.O :: L') := by
  have hlen := hx.len
  have hM := M.del hd
  replace M := (M.del hd).unstar3
  obtain ⟨hlife, hwin, hspan, hack, hnow, h128, hbody, hsent⟩ := hs
  unfold SnX.row at M
  unfold SX.v
  obtain ⟨g, B, cB, ps, ⟨life, window, span, acked, now, l⟩⟩ := x
  obtain ⟨qlife, qseq, qack, ⟨QA, qcap, ql⟩⟩ := q
  dsimp only [SnX.p, SnX.is, OX.v, SX.key] at M hx hlen h128 hlife hwin hspan hack hnow hbody hsent hq hM ⊢
  have bad : ∀ {w' : World} {L2 : List Asr}, Mem w0 w' L2 → Sel L2 (Asr.row g 92 [.int .u64 (life : Int), .int .i64 (window : Int), .int .i64 (span : Int), .int .u64 (acked : Int), .int .i64 (now : Int), .slice B ps.length cB] :: Asr.lst pieceE B cB ps :: Asr.star (ps.map PX.O) :: L') → ∀ e : Int, e ≠ 0 → hearE ⟨life, window, span, acked, now, l⟩ (qlife, qseq, qack, ql) = e →
      ∃ x' : SnX, Value.int .i64 e = .int .i64 (hearE ⟨life, window, span, acked, now, l⟩ (qlife, qseq, qack, ql)) ∧ x'.g = g ∧ x'.s = hearS ⟨life, window, span, acked, now, l⟩ (qlife, qseq, qack, ql) ∧ x'.is ∧ Mem w0 w' (x'.O :: L') := by
    intro w' L2 M2 hsel e he0 he
    refine ⟨⟨g, B, cB, ps, ⟨life, window, span, acked, now, l⟩⟩, by rw [he], rfl, ?_, hx, Mem.star3 (M2.sel hsel)⟩
    unfold hearS
    rw [he, if_neg (fun h => he0 h.1)]
  refine Fn.enter Try.func22 rfl Try.ntmps22 rfl ?_
  refine W.sub [(0, _), (1, _)] (.cons rfl (.cons rfl .nil)) ?_
  refine W.seq ?_
  refine W.region ?_
  refine WL.box rfl M rfl ?_
  intro g0_0 w M
  try simp only [Value.cells] at M
  try simp only [List.toList_toArray] at M
  refine WL.assign rfl rfl ?_
  refine WL.nil ?_
  refine WX.next ?_
  refine W.sub [(0, _), (3, _)] (.cons rfl (.cons rfl .nil)) ?_
  refine W.joint (fun (_ : Unit) => [(0, .pointer (some ⟨g, 0, none⟩)), (3, .pointer (some ⟨g0_0, 0, none⟩))]) (fun j w => Mem w0 w ((fun _ => Asr.row g0_0 36 [.int .u64 (qlife : Int), .int .u64 (qseq : Int), .bool qack, .slice QA ql.length qcap] :: Asr.row g 92 [.int .u64 (life : Int), .int .i64 (window : Int), .int .i64 (span : Int), .int .u64 (acked : Int), .int .i64 (now : Int), .slice B ps.length cB] :: Asr.lst pieceE B cB ps :: Asr.star (ps.map PX.O) :: L') j) ∧ (fun _ => hearE ⟨life, window, span, acked, now, l⟩ (qlife, qseq, qack, ql) = 0 ∧ (acked < qseq → qseq - acked ≤ ps.length)) j) ?_ ?_
  · refine W.block ?_
    refine W.seq ?_
    refine W.region ?_
    refine WL.move rfl rfl ?_
    refine WL.eqNilF Try.underlying24 rfl rfl rfl ?_
    refine WL.assign rfl rfl ?_
    refine WL.nil ?_
    refine WX.next ?_
    refine W.sub [(0, _), (3, _), (5, _)] (.cons rfl (.cons rfl (.cons rfl .nil))) ?_
    refine W.condF rfl ?_
    refine W.seq ?_
    refine W.region ?_
    refine WL.loadW Try.isAgg36 Try.sizeOf36 rfl M (by first | ((repeat (first | with_reducible exact Has.here | with_reducible refine Has.there ?_)); done) | (repeat (first | exact Has.here | refine Has.there ?_))) rfl rfl ?_
    refine WL.call Try.call43 rfl (right_ok ⟨qlife, qseq, qack, ⟨QA, qcap, ql⟩⟩ _) rfl ?_
    rintro _ w ⟨rfl, m⟩
    replace M := M.call0 m; clear m
    dsimp only [SX.key]
    refine WL.not rfl rfl ?_
    refine WL.assign rfl rfl ?_
    refine WL.nil ?_
    refine WX.next ?_
    refine W.sub [(0, _), (3, _), (8, _)] (.cons rfl (.cons rfl (.cons rfl .nil))) ?_
    refine W.cond rfl (fun c1 => ?_) (fun c1 => ?_)
    · (try simp only [Bool.not_eq_true'] at c1); (try simp only [Bool.not_eq_false'] at c1); (try simp only [decide_eq_true_eq] at c1); (try simp only [decide_eq_false_iff_not] at c1)
      refine W.seq ?_
      refine W.region ?_
      refine WL.assign rfl rfl ?_
      refine WL.nil ?_
      refine WX.next ?_
      refine W.sub [(4, _)] (.cons rfl .nil) ?_
      refine W.ret ?_
      refine WX.blockRet ?_
      refine WX.thenRet ?_
      refine WX.ret1 rfl rfl ?_
      exact bad M (by first | ((repeat (first | with_reducible exact Sel.refl | with_reducible exact Sel.nil | with_reducible exact Del.here | with_reducible apply Del.there | with_reducible apply Sel.cons | with_reducible apply Sel.drop)); done) | (repeat (first | exact Sel.refl | exact Sel.nil | exact Del.here | apply Del.there | apply Sel.cons | apply Sel.drop))) 2 (by omega) (by unfold hearE; rw [if_pos (by simpa using c1)])
    · (try simp only [Bool.not_eq_true'] at c1); (try simp only [Bool.not_eq_false'] at c1); (try simp only [decide_eq_true_eq] at c1); (try simp only [decide_eq_false_iff_not] at c1)
      skip
      have g1 : ¬ (isSeg (qlife, qseq, qack, ql) = false) := by simpa using c1
      refine W.seq ?_
      refine W.region ?_
      refine WL.fieldR (off := 2) Try.underlying36 rfl rfl Try.sizeOf4 rfl rfl rfl ?_
      refine WL.loadR Try.isAgg4 rfl M (by first | ((repeat (first | with_reducible exact Has.here | with_reducible refine Has.there ?_)); done) | (repeat (first | exact Has.here | refine Has.there ?_))) rfl rfl ?_
      refine WL.not rfl rfl ?_
      refine WL.assign rfl rfl ?_
      refine WL.nil ?_
      refine WX.next ?_
      refine W.sub [(0, _), (3, _), (12, _)] (.cons rfl (.cons rfl (.cons rfl .nil))) ?_
      refine W.cond rfl (fun c2 => ?_) (fun c2 => ?_)
      · (try simp only [Bool.not_eq_true'] at c2); (try simp only [Bool.not_eq_false'] at c2); (try simp only [decide_eq_true_eq] at c2); (try simp only [decide_eq_false_iff_not] at c2)
        refine W.seq ?_
        refine W.region ?_
        refine WL.assign rfl rfl ?_
        refine WL.nil ?_
        refine WX.next ?_
        refine W.sub [(4, _)] (.cons rfl .nil) ?_
        refine W.ret ?_
        refine WX.blockRet ?_
        refine WX.thenRet ?_
        refine WX.ret1 rfl rfl ?_
        exact bad M (by first | ((repeat (first | with_reducible exact Sel.refl | with_reducible exact Sel.nil | with_reducible exact Del.here | with_reducible apply Del.there | with_reducible apply Sel.cons | with_reducible apply Sel.drop)); done) | (repeat (first | exact Sel.refl | exact Sel.nil | exact Del.here | apply Del.there | apply Sel.cons | apply Sel.drop))) 71 (by omega) (by unfold hearE; rw [if_neg g1, if_pos (by simpa using c2)])
      · (try simp only [Bool.not_eq_true'] at c2); (try simp only [Bool.not_eq_false'] at c2); (try simp only [decide_eq_true_eq] at c2); (try simp only [decide_eq_false_iff_not] at c2)
        have g2 : ¬ (qack = false) := by simpa using c2
        refine W.seq ?_
        refine W.drawM (_) (by kernel_rfl) (fun j => [1, 5].contains j) M Sel.refl ?_
        clear M; intro M
        apply DG.pure_ [0, 2, 3, 4] 4 rfl (by kernel_rfl) (by kernel_rfl)
        · intro w
          refine WL.fieldR (off := 0) Try.underlying36 rfl rfl Try.sizeOf22 rfl rfl rfl ?_
          refine WL.move rfl rfl ?_
          refine WL.nilCheck rfl rfl ?_
          refine WL.fieldR (off := 0) Try.underlying92 rfl rfl Try.sizeOf22 rfl rfl rfl ?_
          exact Chain.end_ rfl
        apply DG.take [1, 5, 6, 7] 0 rfl (by kernel_rfl) (by kernel_rfl) (M.sel (by first | ((repeat (first | with_reducible exact Sel.refl | with_reducible exact Sel.nil | with_reducible exact Del.here | with_reducible apply Del.there | with_reducible apply Sel.cons | with_reducible apply Sel.drop)); done) | (repeat (first | exact Sel.refl | exact Sel.nil | exact Del.here | apply Del.there | apply Sel.cons | apply Sel.drop))))
        · intro w M
          refine WL.loadR Try.isAgg22 rfl M (by first | ((repeat (first | with_reducible exact Has.here | with_reducible refine Has.there ?_)); done) | (repeat (first | exact Has.here | refine Has.there ?_))) rfl rfl ?_
          refine WL.loadR Try.isAgg22 rfl M (by first | ((repeat (first | with_reducible exact Has.here | with_reducible refine Has.there ?_)); done) | (repeat (first | exact Has.here | refine Has.there ?_))) rfl rfl ?_
          refine WL.neI rfl rfl rfl ?_
          refine WL.assign rfl rfl ?_
          exact Chain.end_ rfl
        refine DG.end_ (by kernel_rfl) ?_
        refine WX.next ?_
        refine W.sub [(0, _), (3, _), (16, _)] (.cons rfl (.cons rfl (.cons rfl .nil))) ?_
        refine W.ite rfl (fun c3 => ?_) (fun c3 => ?_)
        · refine W.seq ?_
          refine W.region ?_
          refine WL.assign rfl rfl ?_
          refine WL.nil ?_
          refine WX.next ?_
          refine W.sub [(4, _)] (.cons rfl .nil) ?_
          refine W.ret ?_
          refine WX.blockRet ?_
          refine WX.thenRet ?_
          refine WX.ret1 rfl rfl ?_
          exact bad M (by first | ((repeat (first | with_reducible exact Sel.refl | with_reducible exact Sel.nil | with_reducible exact Del.here | with_reducible apply Del.there | with_reducible apply Sel.cons | with_reducible apply Sel.drop)); done) | (repeat (first | exact Sel.refl | exact Sel.nil | exact Del.here | apply Del.there | apply Sel.cons | apply Sel.drop))) 70 (by omega) (by unfold hearE; rw [if_neg g1, if_neg g2, if_pos (by dsimp only; omega)])
        · have g3 : ¬ (qlife ≠ life) := by omega
          refine W.seq ?_
          refine W.drawM (_) (by kernel_rfl) (fun j => [1, 5, 8, 9, 10, 11, 12, 13, 14, 15, 16, 17, 18, 19, 20].contains j) M Sel.refl ?_
          clear M; intro M
          apply DG.pure_ [0, 2, 3, 4] 20 rfl (by kernel_rfl) (by kernel_rfl)
          · intro w
            refine WL.fieldR (off := 1) Try.underlying36 rfl rfl Try.sizeOf22 rfl rfl rfl ?_
            refine WL.move rfl rfl ?_
            refine WL.nilCheck rfl rfl ?_
            refine WL.fieldR (off := 3) Try.underlying92 rfl rfl Try.sizeOf22 rfl rfl rfl ?_
            exact Chain.end_ rfl
          apply DG.take [1, 5, 6] 17 rfl (by kernel_rfl) (by kernel_rfl) (M.sel (by first | ((repeat (first | with_reducible exact Sel.refl | with_reducible exact Sel.nil | with_reducible exact Del.here | with_reducible apply Del.there | with_reducible apply Sel.cons | with_reducible apply Sel.drop)); done) | (repeat (first | exact Sel.refl | exact Sel.nil | exact Del.here | apply Del.there | apply Sel.cons | apply Sel.drop))))
          · intro w M
            refine WL.loadR Try.isAgg22 rfl M (by first | ((repeat (first | with_reducible exact Has.here | with_reducible refine Has.there ?_)); done) | (repeat (first | exact Has.here | refine Has.there ?_))) rfl rfl ?_
            refine WL.loadR Try.isAgg22 rfl M (by first | ((repeat (first | with_reducible exact Has.here | with_reducible refine Has.there ?_)); done) | (repeat (first | exact Has.here | refine Has.there ?_))) rfl rfl ?_
            refine WL.gtr rfl rfl rfl ?_
            exact Chain.end_ rfl
          refine DG.knowP (t := 31) rfl (fun c4 => ?_) (fun c4 => ?_)
          · apply DG.pure_ [7] 16 rfl (by kernel_rfl) (by kernel_rfl)
            · intro w
              refine WL.move rfl rfl ?_
              exact Chain.end_ rfl
            apply DG.take [8, 9, 10, 11, 12, 13, 14, 15, 16, 17, 18, 19, 20, 21, 22, 23] 0 rfl (by kernel_rfl) (by kernel_rfl) (M.sel (by first | ((repeat (first | with_reducible exact Sel.refl | with_reducible exact Sel.nil | with_reducible exact Del.here | with_reducible apply Del.there | with_reducible apply Sel.cons | with_reducible apply Sel.drop)); done) | (repeat (first | exact Sel.refl | exact Sel.nil | exact Del.here | apply Del.there | apply Sel.cons | apply Sel.drop))))
            · intro w M
              refine WL.on rfl rfl ?_
              refine WL.fieldR (off := 1) Try.underlying36 rfl rfl Try.sizeOf22 rfl rfl rfl ?_
              refine WL.on rfl rfl ?_
              refine WL.loadR Try.isAgg22 rfl M (by first | ((repeat (first | with_reducible exact Has.here | with_reducible refine Has.there ?_)); done) | (repeat (first | exact Has.here | refine Has.there ?_))) rfl rfl ?_
              refine WL.on rfl rfl ?_
              refine WL.move rfl rfl ?_
              refine WL.on rfl rfl ?_
              refine WL.nilCheck rfl rfl ?_
              refine WL.on rfl rfl ?_
              refine WL.fieldR (off := 3) Try.underlying92 rfl rfl Try.sizeOf22 rfl rfl rfl ?_
              refine WL.on rfl rfl ?_
              refine WL.loadR Try.isAgg22 rfl M (by first | ((repeat (first | with_reducible exact Has.here | with_reducible refine Has.there ?_)); done) | (repeat (first | exact Has.here | refine Has.there ?_))) rfl rfl ?_
              refine WL.on rfl rfl ?_
              refine WL.sub' rfl rfl (show IntKind.u64.wrap ((qseq : Int) - (acked : Int)) = ((qseq - acked : Nat) : Int) by rw [wU64 (by omega)]; omega) rfl ?_
              refine WL.on rfl rfl ?_
              refine WL.move rfl rfl ?_
              refine WL.on rfl rfl ?_
              refine WL.nilCheck rfl rfl ?_
              refine WL.on rfl rfl ?_
              refine WL.fieldR (off := 5) Try.underlying92 rfl rfl Try.sizeOf90 rfl rfl rfl ?_
              refine WL.on rfl rfl ?_
              refine WL.loadR Try.isAgg90 rfl M (by first | ((repeat (first | with_reducible exact Has.here | with_reducible refine Has.there ?_)); done) | (repeat (first | exact Has.here | refine Has.there ?_))) rfl rfl ?_
              refine WL.on rfl rfl ?_
              refine WL.len Try.underlying90 rfl rfl ?_
              refine WL.on rfl rfl ?_
              refine WL.conv Try.underlying3 Try.underlying22 rfl (wU64 (by omega)) rfl ?_
              refine WL.on rfl rfl ?_
              refine WL.gtr rfl rfl rfl ?_
              refine WL.pickT rfl rfl rfl ?_
              refine WL.assign rfl rfl ?_
              exact Chain.end_ rfl
            refine DG.end_ (by kernel_rfl) ?_
            refine WX.next ?_
            refine W.sub [(0, _), (3, _), (24, _)] (.cons rfl (.cons rfl (.cons rfl .nil))) ?_
            refine W.ite rfl (fun c5 => ?_) (fun c5 => ?_)
            · refine W.seq ?_
              refine W.region ?_
              refine WL.assign rfl rfl ?_
              refine WL.nil ?_
              refine WX.next ?_
              refine W.sub [(4, _)] (.cons rfl .nil) ?_
              refine W.ret ?_
              refine WX.blockRet ?_
              refine WX.thenRet ?_
              refine WX.ret1 rfl rfl ?_
              exact bad M (by first | ((repeat (first | with_reducible exact Sel.refl | with_reducible exact Sel.nil | with_reducible exact Del.here | with_reducible apply Del.there | with_reducible apply Sel.cons | with_reducible apply Sel.drop)); done) | (repeat (first | exact Sel.refl | exact Sel.nil | exact Del.here | apply Del.there | apply Sel.cons | apply Sel.drop))) 11 (by omega) (by unfold hearE; rw [if_neg g1, if_neg g2, if_neg g3, if_pos (by dsimp only; omega)])
            · refine W.skip ?_
              refine WX.blockNormal ?_
              refine WX.join (()) (by (repeat' (first | exact envSub.nil | refine envSub.cons ?_ ?_)) <;> first | rfl | (refine congrArg some ?_; refine congrArg (Value.int _) ?_; first | omega | (dsimp only; omega)) | (simp; done) | (refine congrArg some ?_; dsimp only; congr 1; omega) | (simp; omega)) ⟨M.sel (by first | ((repeat (first | with_reducible exact Sel.refl | with_reducible exact Sel.nil | with_reducible exact Del.here | with_reducible apply Del.there | with_reducible apply Sel.cons | with_reducible apply Sel.drop)); done) | (repeat (first | exact Sel.refl | exact Sel.nil | exact Del.here | apply Del.there | apply Sel.cons | apply Sel.drop))), ⟨by unfold hearE; rw [if_neg g1, if_neg g2, if_neg g3, if_neg (by dsimp only; omega)], by omega⟩⟩
          · apply DG.pure_ [7] 16 rfl (by kernel_rfl) (by kernel_rfl)
            · intro w
              refine WL.move rfl rfl ?_
              exact Chain.end_ rfl
            apply DG.take [8, 9, 10, 11, 12, 13, 14, 15, 16, 17, 18, 19, 20, 21, 22, 23] 0 rfl (by kernel_rfl) (by kernel_rfl) (M.sel (by first | ((repeat (first | with_reducible exact Sel.refl | with_reducible exact Sel.nil | with_reducible exact Del.here | with_reducible apply Del.there | with_reducible apply Sel.cons | with_reducible apply Sel.drop)); done) | (repeat (first | exact Sel.refl | exact Sel.nil | exact Del.here | apply Del.there | apply Sel.cons | apply Sel.drop))))
            · intro w M
              refine WL.off rfl rfl rfl rfl ?_
              refine WL.off rfl rfl rfl rfl ?_
              refine WL.off rfl rfl rfl rfl ?_
              refine WL.off rfl rfl rfl rfl ?_
              refine WL.off rfl rfl rfl rfl ?_
              refine WL.off rfl rfl rfl rfl ?_
              refine WL.off rfl rfl rfl rfl ?_
              refine WL.off rfl rfl rfl rfl ?_
              refine WL.off rfl rfl rfl rfl ?_
              refine WL.off rfl rfl rfl rfl ?_
              refine WL.off rfl rfl rfl rfl ?_
              refine WL.off rfl rfl rfl rfl ?_
              refine WL.off rfl rfl rfl rfl ?_
              refine WL.off rfl rfl rfl rfl ?_
              refine WL.pickF rfl rfl rfl ?_
              refine WL.assign rfl rfl ?_
              exact Chain.end_ rfl
            refine DG.end_ (by kernel_rfl) ?_
            refine WX.next ?_
            refine W.sub [(0, _), (3, _), (24, _)] (.cons rfl (.cons rfl (.cons rfl .nil))) ?_
            refine W.condF rfl ?_
            refine W.skip ?_
            refine WX.blockNormal ?_
            refine WX.join (()) (by (repeat' (first | exact envSub.nil | refine envSub.cons ?_ ?_)) <;> first | rfl | (refine congrArg some ?_; refine congrArg (Value.int _) ?_; first | omega | (dsimp only; omega)) | (simp; done) | (refine congrArg some ?_; dsimp only; congr 1; omega) | (simp; omega)) ⟨M.sel (by first | ((repeat (first | with_reducible exact Sel.refl | with_reducible exact Sel.nil | with_reducible exact Del.here | with_reducible apply Del.there | with_reducible apply Sel.cons | with_reducible apply Sel.drop)); done) | (repeat (first | exact Sel.refl | exact Sel.nil | exact Del.here | apply Del.there | apply Sel.cons | apply Sel.drop))), ⟨by unfold hearE; rw [if_neg g1, if_neg g2, if_neg g3, if_neg (by dsimp only; omega)], by omega⟩⟩
  clear M; rintro (_) w ⟨M, ⟨he, hle⟩⟩; dsimp only at M he hle ⊢
  refine W.sub [(0, _), (3, _)] (.cons rfl (.cons rfl .nil)) ?_
  refine W.seq ?_
  refine W.seq ?_
  refine W.drawM (_) (by kernel_rfl) (fun j => [1, 5].contains j) M Sel.refl ?_
  clear M; intro M
  apply DG.pure_ [0, 2, 3, 4] 3 rfl (by kernel_rfl) (by kernel_rfl)
  · intro w
    refine WL.fieldR (off := 1) Try.underlying36 rfl rfl Try.sizeOf22 rfl rfl rfl ?_
    refine WL.move rfl rfl ?_
    refine WL.nilCheck rfl rfl ?_
    refine WL.fieldR (off := 3) Try.underlying92 rfl rfl Try.sizeOf22 rfl rfl rfl ?_
    exact Chain.end_ rfl
  apply DG.take [1, 5, 6] 0 rfl (by kernel_rfl) (by kernel_rfl) (M.sel (by first | ((repeat (first | with_reducible exact Sel.refl | with_reducible exact Sel.nil | with_reducible exact Del.here | with_reducible apply Del.there | with_reducible apply Sel.cons | with_reducible apply Sel.drop)); done) | (repeat (first | exact Sel.refl | exact Sel.nil | exact Del.here | apply Del.there | apply Sel.cons | apply Sel.drop))))
  · intro w M
    refine WL.loadR Try.isAgg22 rfl M (by first | ((repeat (first | with_reducible exact Has.here | with_reducible refine Has.there ?_)); done) | (repeat (first | exact Has.here | refine Has.there ?_))) rfl rfl ?_
    refine WL.loadR Try.isAgg22 rfl M (by first | ((repeat (first | with_reducible exact Has.here | with_reducible refine Has.there ?_)); done) | (repeat (first | exact Has.here | refine Has.there ?_))) rfl rfl ?_
    refine WL.gtr rfl rfl rfl ?_
    exact Chain.end_ rfl
  refine DG.end_ (by kernel_rfl) ?_
  refine WX.next ?_
  refine W.sub [(0, _), (3, _), (54, _)] (.cons rfl (.cons rfl (.cons rfl .nil))) ?_
  refine W.ite rfl (fun c6 => ?_) (fun c6 => ?_)
  · have hlt : acked < qseq := by omega
    have hle2 := hle hlt
    refine W.seq ?_
    refine W.drawM (_) (by kernel_rfl) (fun j => [1, 5, 7, 11, 12].contains j) M Sel.refl ?_
    clear M; intro M
    apply DG.pure_ [0, 2, 3, 4, 6, 8, 9, 10] 10 rfl (by kernel_rfl) (by kernel_rfl)
    · intro w
      refine WL.move rfl rfl ?_
      refine WL.move rfl rfl ?_
      refine WL.nilCheck rfl rfl ?_
      refine WL.fieldR (off := 5) Try.underlying92 rfl rfl Try.sizeOf90 rfl rfl rfl ?_
      refine WL.fieldR (off := 1) Try.underlying36 rfl rfl Try.sizeOf22 rfl rfl rfl ?_
      refine WL.move rfl rfl ?_
      refine WL.nilCheck rfl rfl ?_
      refine WL.fieldR (off := 3) Try.underlying92 rfl rfl Try.sizeOf22 rfl rfl rfl ?_
      exact Chain.end_ rfl
    apply DG.take [5, 7, 11, 12, 13] 5 rfl (by kernel_rfl) (by kernel_rfl) (M.sel (by first | ((repeat (first | with_reducible exact Sel.refl | with_reducible exact Sel.nil | with_reducible exact Del.here | with_reducible apply Del.there | with_reducible apply Sel.cons | with_reducible apply Sel.drop)); done) | (repeat (first | exact Sel.refl | exact Sel.nil | exact Del.here | apply Del.there | apply Sel.cons | apply Sel.drop))))
    · intro w M
      refine WL.loadR Try.isAgg90 rfl M (by first | ((repeat (first | with_reducible exact Has.here | with_reducible refine Has.there ?_)); done) | (repeat (first | exact Has.here | refine Has.there ?_))) rfl rfl ?_
      refine WL.loadR Try.isAgg22 rfl M (by first | ((repeat (first | with_reducible exact Has.here | with_reducible refine Has.there ?_)); done) | (repeat (first | exact Has.here | refine Has.there ?_))) rfl rfl ?_
      refine WL.loadR Try.isAgg22 rfl M (by first | ((repeat (first | with_reducible exact Has.here | with_reducible refine Has.there ?_)); done) | (repeat (first | exact Has.here | refine Has.there ?_))) rfl rfl ?_
      refine WL.sub' rfl rfl (show IntKind.u64.wrap ((qseq : Int) - (acked : Int)) = ((qseq - acked : Nat) : Int) by rw [wU64 (by omega)]; omega) rfl ?_
      refine WL.cutL (m' := (ps.drop (qseq - acked)).length) Try.underlying90 Try.sizeOf94 rfl rfl (by omega) (by omega) (by first | exact rfl | exact (Int.toNat_of_nonneg (by omega)).symm) (by first | (rw [sub_length (by omega) (by omega)]) | (simp only [List.length_drop] <;> omega) | (simp only [List.length_take] <;> omega) | (simp only [List.length_take, List.length_drop] <;> omega) | (simp; done) | (simp; omega)) rfl ?_
      exact Chain.end_ rfl
    refine DG.step 1 4 rfl (by kernel_rfl) ?_
    refine WL.buildL (E := pieceE) (l := ([] : List PX)) Try.elem94 M rfl rfl rfl rfl rfl rfl ?_
    intro g12_1 w M
    refine DG.go (G := fun j => [1, 5, 7, 11, 12].contains j) (i := 1) (f' := 4) (done := [0, 2, 3, 4, 6, 8, 9, 10, 5, 7, 11, 12, 13]) (fun _ => M.sel (by first | ((repeat (first | with_reducible exact Sel.refl | with_reducible exact Sel.nil | with_reducible exact Del.here | with_reducible apply Del.there | with_reducible apply Sel.cons | with_reducible apply Sel.drop)); done) | (repeat (first | exact Sel.refl | exact Sel.nil | exact Del.here | apply Del.there | apply Sel.cons | apply Sel.drop)))) ?_
    refine DG.step 14 3 rfl (by kernel_rfl) ?_
    refine WL.appendLN (E := pieceE) Try.elem94 rfl rfl M (by first | ((repeat (first | with_reducible exact Del.here | with_reducible apply Del.there)); done) | (repeat (first | exact Del.here | apply Del.there))) ((M.rdL (by first | ((repeat (first | with_reducible exact Has.here | with_reducible refine Has.there ?_)); done) | (repeat (first | exact Has.here | refine Has.there ?_))) : RdL w pieceE B cB ps).suf hle2) rfl rfl (by first | (simp; done) | (simp; omega)) (by first | (simp [maxLen]; done) | (simp [maxLen]; omega)) rfl ?_
    intro A12_14 cap12_14 w M
    refine DG.go (G := fun j => [1, 5, 7, 11, 12].contains j) (i := 14) (f' := 3) (done := [0, 2, 3, 4, 6, 8, 9, 10, 5, 7, 11, 12, 13, 1]) (fun h => by cases h) ?_
    apply DG.pure_ [15, 16] 1 rfl (by kernel_rfl) (by kernel_rfl)
    · intro w
      refine WL.nilCheck rfl rfl ?_
      refine WL.fieldR (off := 5) Try.underlying92 rfl rfl Try.sizeOf90 rfl rfl rfl ?_
      exact Chain.end_ rfl
    refine DG.step 17 0 rfl (by kernel_rfl) ?_
    refine WL.storeR Try.sizeOf90 rfl rfl rfl M (by first | ((repeat (first | with_reducible exact Has.here | with_reducible refine Has.there ?_)); done) | (repeat (first | exact Has.here | refine Has.there ?_))) (by repeat (first | exact SetAt.zero | apply SetAt.succ)) (by first | ((repeat (first | with_reducible exact Upd.here | with_reducible apply Upd.there)); done) | (repeat (first | exact Upd.here | apply Upd.there))) ?_
    intro w M
    refine DG.go (G := fun j => [1, 5, 7, 11, 12].contains j) (i := 17) (f' := 0) (done := [0, 2, 3, 4, 6, 8, 9, 10, 5, 7, 11, 12, 13, 1, 14, 15, 16]) (fun h => by cases h) ?_
    refine DG.end_ (by kernel_rfl) ?_
    refine WX.next ?_
    refine W.sub [(0, _), (3, _)] (.cons rfl (.cons rfl .nil)) ?_
    refine W.region ?_
    refine WL.move rfl rfl ?_
    refine WL.fieldR (off := 1) Try.underlying36 rfl rfl Try.sizeOf22 rfl rfl rfl ?_
    refine WL.loadR Try.isAgg22 rfl M (by first | ((repeat (first | with_reducible exact Has.here | with_reducible refine Has.there ?_)); done) | (repeat (first | exact Has.here | refine Has.there ?_))) rfl rfl ?_
    refine WL.nilCheck rfl rfl ?_
    refine WL.fieldR (off := 3) Try.underlying92 rfl rfl Try.sizeOf22 rfl rfl rfl ?_
    refine WL.storeR Try.sizeOf22 rfl rfl rfl M (by first | ((repeat (first | with_reducible exact Has.here | with_reducible refine Has.there ?_)); done) | (repeat (first | exact Has.here | refine Has.there ?_))) (by repeat (first | exact SetAt.zero | apply SetAt.succ)) (by first | ((repeat (first | with_reducible exact Upd.here | with_reducible apply Upd.there)); done) | (repeat (first | exact Upd.here | apply Upd.there))) ?_
    intro w M
    refine WL.nil ?_
    refine WX.next ?_
    refine W.sub [] .nil ?_
    refine W.seq ?_
    refine W.region ?_
    refine WL.assign rfl rfl ?_
    refine WL.nil ?_
    refine WX.next ?_
    refine W.sub [(4, _)] (.cons rfl .nil) ?_
    refine W.ret ?_
    refine WX.ret1 rfl rfl ?_
    refine ⟨⟨g, A12_14, cap12_14, ps.drop (qseq - acked), ⟨life, window, span, qseq, now, l.drop (qseq - acked)⟩⟩, by rw [he], rfl, by unfold hearS; rw [he, if_pos ⟨rfl, hlt⟩], by show (ps.drop (qseq - acked)).map PX.key = _; rw [← hx, List.map_drop], ?_⟩
    have e : ps.map PX.O = (ps.take (qseq - acked)).map PX.O ++ (ps.drop (qseq - acked)).map PX.O := by rw [← List.map_append, List.take_append_drop]
    rw [e] at M
    have M2 := Mem.starDrop (M.sel (K := Asr.star ((ps.take (qseq - acked)).map PX.O ++ (ps.drop (qseq - acked)).map PX.O) :: Asr.row g 92 [.int .u64 (life : Int), .int .i64 (window : Int), .int .i64 (span : Int), .int .u64 (qseq : Int), .int .i64 (now : Int), .slice A12_14 (ps.drop (qseq - acked)).length cap12_14] :: Asr.lst pieceE A12_14 cap12_14 (ps.drop (qseq - acked)) :: L') (by first | ((repeat (first | with_reducible exact Sel.refl | with_reducible exact Sel.nil | with_reducible exact Del.here | with_reducible apply Del.there | with_reducible apply Sel.cons | with_reducible apply Sel.drop)); done) | (repeat (first | exact Sel.refl | exact Sel.nil | exact Del.here | apply Del.there | apply Sel.cons | apply Sel.drop))))
    exact Mem.star3 (Mem.f2 (Mem.f2 M2))
  · refine W.skip ?_
    refine WX.next ?_
    refine W.seq ?_
    refine W.region ?_
    refine WL.assign rfl rfl ?_
    refine WL.nil ?_
    refine WX.next ?_
    refine W.sub [(4, _)] (.cons rfl .nil) ?_
    refine W.ret ?_
    refine WX.ret1 rfl rfl ?_
    refine ⟨⟨g, B, cB, ps, ⟨life, window, span, acked, now, l⟩⟩, by rw [he], rfl, by unfold hearS; rw [if_neg (fun h => by have := h.2; dsimp only at this; omega)], hx, Mem.star3 (M.sel (by first | ((repeat (first | with_reducible exact Sel.refl | with_reducible exact Sel.nil | with_reducible exact Del.here | with_reducible apply Del.there | with_reducible apply Sel.cons | with_reducible apply Sel.drop)); done) | (repeat (first | exact Sel.refl | exact Sel.nil | exact Del.here | apply Del.there | apply Sel.cons | apply Sel.drop))))⟩

/-! ### the same, said of the new state's parts -/
theorem Push2 (x : SnX) (hx : x.is) (hs : x.s.ok) (A : Option Addr) (cap : Nat) (b : List UInt8) (w0 w : World) (L L' : List Asr) (M : Mem w0 w L) (hd : Del x.O L L') (hb : RdH w0 L' A cap b) :
    Fn Try.prog 15 [x.p, .slice A b.length cap] w fun v w' => ∃ A' c' ps', v = .int .i64 (pushE x.s b) ∧ SnX.is ⟨x.g, A', c', ps', pushS x.s b⟩ ∧ Mem w0 w' (SnX.O ⟨x.g, A', c', ps', pushS x.s b⟩ :: L') :=
  (Push_ok x hx hs A cap b w0 w L L' M hd hb).mono fun v w' ⟨⟨g, A, c, ps, s⟩, hv, hg, hs, hi, M⟩ => by
    dsimp only at hg hs
    subst hg hs
    exact ⟨A, c, ps, hv, hi, M⟩
theorem Tick2 (x : SnX) (hx : x.is) (hs : x.s.ok) (w0 w : World) (L L' : List Asr) (M : Mem w0 w L) (hd : Del x.O L L') :
    Fn Try.prog 19 [x.p] w fun v w' => ∃ (A' : Option Addr) (c' : Nat) (ps' : List PX) (A : Option Addr) (cap : Nat) (outs : List SX), v = .slice A outs.length cap ∧ SnX.is ⟨x.g, A', c', ps', tickS x.s⟩ ∧ outs.map SX.key = tickO x.s ∧
      Mem w0 w' (Asr.lst segE A cap outs :: Asr.star (outs.map SX.O) :: SnX.O ⟨x.g, A', c', ps', tickS x.s⟩ :: L') :=
  (Tick_ok x hx hs w0 w L L' M hd).mono fun v w' ⟨⟨g, A, c, ps, s⟩, Ao, co, outs, hv, hg, hs, hi, ho, M⟩ => by
    dsimp only at hg hs
    subst hg hs
    exact ⟨A, c, ps, Ao, co, outs, hv, hi, ho, M⟩
theorem HearS2 (x : SnX) (hx : x.is) (hs : x.s.ok) (q : SX) (hq : q.seq < 18446744073709551616) (w0 w : World) (L L' : List Asr) (M : Mem w0 w L) (hd : Del x.O L L') :
    Fn Try.prog 22 [x.p, q.v] w fun v w' => ∃ A' c' ps', v = .int .i64 (hearE x.s q.key) ∧ SnX.is ⟨x.g, A', c', ps', hearS x.s q.key⟩ ∧ Mem w0 w' (SnX.O ⟨x.g, A', c', ps', hearS x.s q.key⟩ :: L') :=
  (HearS_ok x hx hs q hq w0 w L L' M hd).mono fun v w' ⟨⟨g, A, c, ps, s⟩, hv, hg, hs, hi, M⟩ => by
    dsimp only at hg hs
    subst hg hs
    exact ⟨A, c, ps, hv, hi, M⟩
end Go.Proofs.Ytgaegaaaoopolaa
