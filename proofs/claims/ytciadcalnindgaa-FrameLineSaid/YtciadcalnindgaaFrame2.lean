/-
  Walks: the frame that stands at a place, in both.
-/
import Derived.Test.YtciadcalnindgaaFrame1
namespace Go.Proofs.Ytciadcalnindgaa
open Go Go.RowKit Crc Bin

/-- What stands at the front of r: kind, body, how many bytes, error. -/
def getR (r : List UInt8) : UInt8 × List UInt8 × Nat × Nat :=
  if r.length = 0 then (0, [], 0, 10)
  else if r[0]?.getD 0 ≠ 167 then (0, [], 0, 20)
  else if r.length < 6 then (0, [], 0, 10)
  else if 1024 < (rdF r 2).1 then (0, [], 0, 3)
  else if r.length < (rdF r 2).1 + 10 then (0, [], 0, 10)
  else if (rdF r (6 + ((rdF r 2).1 : Int))).1 ≠ crc (r.take (6 + (rdF r 2).1)) then (0, [], 0, 21)
  else (r[1]?.getD 0, (r.drop 6).take (rdF r 2).1, (rdF r 2).1 + 10, 0)
/-- What Get answers. -/
def getG (b : List UInt8) (at_ : Int) : UInt8 × List UInt8 × Int × Int :=
  if at_ < 0 ∨ (b.length : Int) < at_ then (0, [], 0, 2)
  else if (getR (b.drop at_.toNat)).2.2.2 ≠ 0 then (0, [], 0, ((getR (b.drop at_.toNat)).2.2.2 : Int))
  else ((getR (b.drop at_.toNat)).1, (getR (b.drop at_.toNat)).2.1, at_ + ((getR (b.drop at_.toNat)).2.2.1 : Int), 0)
theorem getG_out {b : List UInt8} {at_ : Int} (h : at_ < 0 ∨ (b.length : Int) < at_) : getG b at_ = (0, [], 0, 2) := if_pos h
theorem getG_bad {b : List UInt8} {at_ : Int} {e : Nat} (h0 : 0 ≤ at_) (h1 : at_ ≤ b.length) (h : getR (b.drop at_.toNat) = (0, [], 0, e)) (he : e ≠ 0) : getG b at_ = (0, [], 0, (e : Int)) := by
  unfold getG
  rw [if_neg (by omega), h, if_pos he]
theorem getG_ok {b : List UInt8} {at_ : Int} {k : UInt8} {l : List UInt8} {n : Nat} (h0 : 0 ≤ at_) (h1 : at_ ≤ b.length) (h : getR (b.drop at_.toNat) = (k, l, n, 0)) : getG b at_ = (k, l, at_ + (n : Int), 0) := by
  unfold getG
  rw [if_neg (by omega), h, if_neg (by simp)]

/-- The tuple that answers. -/
def Got (v : Value) (x : UInt8 × List UInt8 × Int × Int) (w w' : World) : Prop :=
  ∃ A' cap', v = .tuple #[.agg #[.int .u8 (x.1.toNat : Int), .slice A' x.2.1.length cap'], .int .i64 x.2.2.1, .int .i64 x.2.2.2] ∧ Mem w w' [Asr.own 5 1 A' x.2.1.length cap' (bs x.2.1)]
theorem Got.none {w w' : World} {L : List Asr} (m : Mem w w' L) (e : Int) : Got (.tuple #[.agg #[.int .u8 0, .slice none 0 0], .int .i64 0, .int .i64 e]) (0, [], 0, e) w w' :=
  ⟨_, _, rfl, m.nil.nilOwn _ _⟩

theorem rdF_len {b : List UInt8} {at_ : Int} (h0 : 0 ≤ at_) (h : at_ + 4 ≤ b.length) : (rdF b at_).1 < 4294967296 := by
  rw [rdF_ok h0 h]
  exact be4_lt _ _ _ _

theorem rdFv_tuple (n : Nat) (a e : Int) : rdFv (n, a, e) = .tuple #[.int .u32 (n : Int), .int .i64 a, .int .i64 e] := rfl

section
variable {P : Program} {n : Nat} {ρ : List (Nat × Value)} {w : World} {rest : List Oper} {X : SqV P n}
variable {d : Nat} {ty : TypeId} {pos : String} {aft : Array Edge} {x : Operand} {t e : TypeId}
theorem WL.sliceLX {A A' : Option Addr} {c m size m' c' : Nat} {lo : Operand} {kl : IntKind} {a : Int} (ht : P.underlying t = some (.slice e)) (hs : ∀ w, (sizeOf e).run P w = .ok size w) (hx : ev ρ x = some (.slice A m c))
    (hl : ev ρ lo = some (.int kl a)) (h0 : 0 ≤ a) (h2 : a ≤ m) (hA : (if c = a.toNat then A else A.map (·.add (a.toNat * size))) = A') (hm : m - a.toNat = m') (hc : c - a.toNat = c') (hd : Nat.blt d n = true)
    (kk : X.S rest ((d, .slice A' m' c') :: ρ) w) :
    X.S (⟨some d, .slice t x (some lo) none none, ty, pos, aft, none⟩ :: rest) ρ w := by
  subst hA hm hc
  refine WL.val rfl rfl hd (fun f hf => ?_) kk
  simp [execOp, hf.eval hx, hf.eval hl, Instr.sliceAt, Instr.slice, run_underlying ht, Instr.sliceBounds, run_sliceBound, hs, h0, h2]
end
theorem RdB.pre {w : World} {A : Option Addr} {cap : Nat} {l : List UInt8} (h : RdB w A cap l) (j : Nat) : RdB w A cap (l.take j) := by
  refine ⟨by simp [bs], ?_, fun h0 => ?_⟩
  · have := h.le
    simp only [List.length_take]
    omega
  · obtain ⟨ad, e, hb, hc⟩ := h.at_ (by simp only [List.length_take] at h0; omega)
    refine ⟨ad, e, hb, fun i v hv => hc i v ?_⟩
    rw [← bs_take, List.getElem?_take] at hv
    split at hv
    · exact hv
    · cases hv
theorem RdB.cellAt {w : World} {ad : Addr} {cap : Nat} {l : List UInt8} (h : RdB w (some ad) cap l) {j : Nat} {c : UInt8} (hj : l[j]? = some c) : w.cell? (ad.add j) = some (.int .u8 (c.toNat : Int)) := by
  obtain ⟨ad', e, _, hc⟩ := h.at_ (by have := (List.getElem?_eq_some_iff.1 hj).1; omega)
  obtain rfl : ad = ad' := by simpa using e
  refine hc j _ ?_
  rw [bs_get, hj]
  rfl

set_option maxRecDepth 10000 in
set_option maxHeartbeats 1000000 in
theorem Get_ok (l : List UInt8) (A : Option Addr) (cap : Nat) (at_ : Int) (w : World) (h : RdB w A cap l) (hl : l.length ≤ 140737488351232) (ha : -9223372036854775808 ≤ at_ ∧ at_ ≤ 9223372036854775807) :
    Fn Try.prog 7 [.slice A l.length cap, .int .i64 at_] w fun v w' => Got v (getG l at_) w w' := by
  have hle : l.length ≤ cap := h.le
  refine Fn.enter Try.func7 rfl Try.ntmps7 rfl ?_
  refine W.sub [(0, _), (1, _)] (.cons rfl (.cons rfl .nil)) ?_
  refine W.seq ?_
  refine W.region ?_
  refine WL.alloc Try.zeroValue31 (Mem.refl w) rfl ?_
  intro gR w0 mR
  refine WL.assign rfl rfl ?_
  refine WL.assign rfl rfl ?_
  refine WL.nil ?_
  refine WX.next ?_
  refine W.sub [(0, _), (1, _), (4, _)] (.cons rfl (.cons rfl (.cons rfl .nil))) ?_
  refine W.seq ?_
  refine W.seq ?_
  refine W.region ?_
  refine WL.move rfl rfl ?_
  refine WL.lss rfl rfl rfl ?_
  refine WL.moveIf rfl rfl (fun c0 => ?_) (fun c0 => ?_)
  · refine WL.off rfl rfl rfl rfl ?_
    refine WL.off rfl rfl rfl rfl ?_
    refine WL.off rfl rfl rfl rfl ?_
    refine WL.off rfl rfl rfl rfl ?_
    refine WL.pickT rfl rfl rfl ?_
    refine WL.nil ?_
    refine WX.next ?_
    refine W.sub [(0, _), (1, _), (4, _), (22, _)] (.cons rfl (.cons rfl (.cons rfl (.cons rfl .nil)))) ?_
    refine W.condT rfl ?_
    refine W.seq ?_
    refine W.region ?_
    refine WL.build (places := #[(0, 1), (1, 1)]) Try.underlying31 Try.zeroValue31 (fun _ => by simp [Try.sizeOf5, Try.sizeOf22]) rfl rfl rfl ?_
    refine WL.storeW mR Try.sizeOf31 rfl rfl (by simp [Value.cells, Value.oneCell']) rfl rfl ?_
    intro w1 mS
    refine WL.assign rfl rfl ?_
    refine WL.assign rfl rfl ?_
    refine WL.nil ?_
    refine WX.next ?_
    refine W.sub [(4, _), (5, _), (6, _)] (.cons rfl (.cons rfl (.cons rfl .nil))) ?_
    refine W.ret ?_
    refine WX.thenRet ?_
    refine WX.retC3 rfl rfl rfl rfl Try.isAgg31 (by exact Try.sizeOf31) mS.cells ?_
    rw [getG_out (by omega)]; exact Got.none mS 2
  · refine WL.on rfl rfl ?_
    refine WL.move rfl rfl ?_
    refine WL.on rfl rfl ?_
    refine WL.move rfl rfl ?_
    refine WL.on rfl rfl ?_
    refine WL.len Try.underlying22 rfl rfl ?_
    refine WL.on rfl rfl ?_
    refine WL.gtr rfl rfl rfl ?_
    refine WL.pickF rfl rfl rfl ?_
    refine WL.nil ?_
    refine WX.next ?_
    refine W.sub [(0, _), (1, _), (4, _), (22, _)] (.cons rfl (.cons rfl (.cons rfl (.cons rfl .nil)))) ?_
    refine W.ite rfl (fun c1 => ?_) (fun c1 => ?_)
    · refine W.seq ?_
      refine W.region ?_
      refine WL.build (places := #[(0, 1), (1, 1)]) Try.underlying31 Try.zeroValue31 (fun _ => by simp [Try.sizeOf5, Try.sizeOf22]) rfl rfl rfl ?_
      refine WL.storeW mR Try.sizeOf31 rfl rfl (by simp [Value.cells, Value.oneCell']) rfl rfl ?_
      intro w1 mS
      refine WL.assign rfl rfl ?_
      refine WL.assign rfl rfl ?_
      refine WL.nil ?_
      refine WX.next ?_
      refine W.sub [(4, _), (5, _), (6, _)] (.cons rfl (.cons rfl (.cons rfl .nil))) ?_
      refine W.ret ?_
      refine WX.thenRet ?_
      refine WX.retC3 rfl rfl rfl rfl Try.isAgg31 (by exact Try.sizeOf31) mS.cells ?_
      rw [getG_out (by omega)]; exact Got.none mS 2
    · obtain ⟨r, hr⟩ : ∃ r, r = l.drop at_.toNat := ⟨_, rfl⟩
      have hrl : r.length = l.length - at_.toNat := by rw [hr, List.length_drop]
      obtain ⟨A', hA'⟩ : ∃ A', (if cap = at_.toNat then A else A.map (·.add (at_.toNat * 1))) = A' := ⟨_, rfl⟩
      have hRr : ∀ {w'}, RdB w' A cap l → RdB w' A' (cap - at_.toNat) r := fun h => by
        have hc := h.cut (i := at_.toNat) (j := l.length) (by omega) (Nat.le_refl _)
        rw [hA', List.take_of_length_le (by rw [List.length_drop]; omega), ← hr] at hc
        exact hc
      refine W.skip ?_
      refine WX.next ?_
      refine W.seq ?_
      refine W.region ?_
      refine WL.move rfl rfl ?_
      refine WL.move rfl rfl ?_
      refine WL.sliceLX (m' := r.length) Try.underlying22 Try.sizeOf5 rfl rfl (by omega) (by omega) hA' (by omega) rfl rfl ?_
      refine WL.assign rfl rfl ?_
      refine WL.nil ?_
      refine WX.next ?_
      refine W.sub [(1, _), (4, _), (7, _)] (.cons rfl (.cons rfl (.cons rfl .nil))) ?_
      refine W.seq ?_
      refine W.block ?_
      refine W.seq ?_
      refine W.region ?_
      refine WL.move rfl rfl ?_
      refine WL.len Try.underlying22 rfl rfl ?_
      refine WL.eqI rfl rfl rfl ?_
      refine WL.assign rfl rfl ?_
      refine WL.nil ?_
      refine WX.next ?_
      refine W.sub [(1, _), (4, _), (7, _), (27, _)] (.cons rfl (.cons rfl (.cons rfl (.cons rfl .nil)))) ?_
      refine W.ite rfl (fun c2 => ?_) (fun c2 => ?_)
      · refine W.seq ?_
        refine W.region ?_
        refine WL.build (places := #[(0, 1), (1, 1)]) Try.underlying31 Try.zeroValue31 (fun _ => by simp [Try.sizeOf5, Try.sizeOf22]) rfl rfl rfl ?_
        refine WL.storeW mR Try.sizeOf31 rfl rfl (by simp [Value.cells, Value.oneCell']) rfl rfl ?_
        intro w1 mS
        refine WL.assign rfl rfl ?_
        refine WL.assign rfl rfl ?_
        refine WL.nil ?_
        refine WX.next ?_
        refine W.sub [(4, _), (5, _), (6, _)] (.cons rfl (.cons rfl (.cons rfl .nil))) ?_
        refine W.ret ?_
        refine WX.blockRet ?_
        refine WX.thenRet ?_
        refine WX.retC3 rfl rfl rfl rfl Try.isAgg31 (by exact Try.sizeOf31) mS.cells ?_
        rw [getG_bad (e := 10) (by omega) (by omega) (by rw [← hr]; unfold getR; rw [if_pos (by omega)]) (by omega)]; exact Got.none mS 10
      · have g0 : ¬ r.length = 0 := by omega
        obtain ⟨ad, rfl, _, _⟩ := (hRr (h.mem mR)).at_ (by omega)
        obtain ⟨x0, hx0⟩ : ∃ x, r[0]? = some x := ⟨_, List.getElem?_eq_getElem (by omega)⟩
        refine W.seq ?_
        refine W.region ?_
        refine WL.move rfl rfl ?_
        refine WL.idx1 (v := .int .u8 (x0.toNat : Int)) Try.underlying22 Try.sizeOf5 rfl rfl (hRr (h.mem mR)) (by show (bs r)[0]? = _; rw [bs_get, hx0]; rfl) (by omega) rfl ?_
        intro ad6 had6
        refine WL.load Try.isAgg5 rfl had6 rfl ?_
        refine WL.neI rfl rfl rfl ?_
        refine WL.assign rfl rfl ?_
        refine WL.nil ?_
        refine WX.next ?_
        refine W.sub [(1, _), (4, _), (7, _), (32, _)] (.cons rfl (.cons rfl (.cons rfl (.cons rfl .nil)))) ?_
        refine W.ite rfl (fun c3 => ?_) (fun c3 => ?_)
        · refine W.seq ?_
          refine W.region ?_
          refine WL.build (places := #[(0, 1), (1, 1)]) Try.underlying31 Try.zeroValue31 (fun _ => by simp [Try.sizeOf5, Try.sizeOf22]) rfl rfl rfl ?_
          refine WL.storeW mR Try.sizeOf31 rfl rfl (by simp [Value.cells, Value.oneCell']) rfl rfl ?_
          intro w1 mS
          refine WL.assign rfl rfl ?_
          refine WL.assign rfl rfl ?_
          refine WL.nil ?_
          refine WX.next ?_
          refine W.sub [(4, _), (5, _), (6, _)] (.cons rfl (.cons rfl (.cons rfl .nil))) ?_
          refine W.ret ?_
          refine WX.blockRet ?_
          refine WX.thenRet ?_
          refine WX.retC3 rfl rfl rfl rfl Try.isAgg31 (by exact Try.sizeOf31) mS.cells ?_
          rw [getG_bad (e := 20) (by omega) (by omega) (by rw [← hr]; unfold getR; rw [if_neg g0, if_pos (by rw [hx0]; rintro rfl; exact c3 rfl)]) (by omega)]; exact Got.none mS 20
        · skip
          have g1 : ¬ (r[0]?.getD 0 ≠ 167) := by
            rw [hx0]
            refine not_not_intro (UInt8.toNat_inj.1 ?_)
            show x0.toNat = 167
            omega
          refine W.seq ?_
          refine W.region ?_
          refine WL.move rfl rfl ?_
          refine WL.len Try.underlying22 rfl rfl ?_
          refine WL.lss rfl rfl rfl ?_
          refine WL.assign rfl rfl ?_
          refine WL.nil ?_
          refine WX.next ?_
          refine W.sub [(1, _), (4, _), (7, _), (38, _)] (.cons rfl (.cons rfl (.cons rfl (.cons rfl .nil)))) ?_
          refine W.ite rfl (fun c4 => ?_) (fun c4 => ?_)
          · refine W.seq ?_
            refine W.region ?_
            refine WL.build (places := #[(0, 1), (1, 1)]) Try.underlying31 Try.zeroValue31 (fun _ => by simp [Try.sizeOf5, Try.sizeOf22]) rfl rfl rfl ?_
            refine WL.storeW mR Try.sizeOf31 rfl rfl (by simp [Value.cells, Value.oneCell']) rfl rfl ?_
            intro w1 mS
            refine WL.assign rfl rfl ?_
            refine WL.assign rfl rfl ?_
            refine WL.nil ?_
            refine WX.next ?_
            refine W.sub [(4, _), (5, _), (6, _)] (.cons rfl (.cons rfl (.cons rfl .nil))) ?_
            refine W.ret ?_
            refine WX.blockRet ?_
            refine WX.thenRet ?_
            refine WX.retC3 rfl rfl rfl rfl Try.isAgg31 (by exact Try.sizeOf31) mS.cells ?_
            rw [getG_bad (e := 10) (by omega) (by omega) (by rw [← hr]; unfold getR; rw [if_neg g0, if_neg g1, if_pos (by omega)]) (by omega)]; exact Got.none mS 10
          · have g2 : ¬ r.length < 6 := by omega
            obtain ⟨n, t1, e1, hf⟩ : ∃ n t e, rdF r 2 = (n, t, e) := ⟨_, _, _, rfl⟩
            have hn : n < 4294967296 := by have := rdF_len (b := r) (at_ := 2) (by omega) (by omega); rw [hf] at this; exact this
            have hf1 : (rdF r 2).1 = n := by rw [hf]
            refine W.skip ?_
            refine WX.blockNormal ?_
            refine WX.next ?_
            refine W.seq ?_
            refine W.region ?_
            refine WL.move rfl rfl ?_
            refine WL.call Try.call9 rfl (Fixed_ok r (some ad) _ 2 w0 (hRr (h.mem mR)) (by omega) (by omega)) rfl ?_
            rintro _ _ ⟨rfl, rfl⟩
            rw [hf, rdFv_tuple]
            refine WL.move rfl rfl ?_
            refine WL.extract rfl rfl rfl ?_
            refine WL.extract rfl rfl rfl ?_
            refine WL.extract rfl rfl rfl ?_
            refine WL.assign rfl rfl ?_
            refine WL.assign rfl rfl ?_
            refine WL.assign rfl rfl ?_
            refine WL.nil ?_
            refine WX.next ?_
            refine W.sub [(1, _), (4, _), (7, _), (8, _)] (.cons rfl (.cons rfl (.cons rfl (.cons rfl .nil)))) ?_
            refine W.seq ?_
            refine W.seq ?_
            refine W.region ?_
            refine WL.move rfl rfl ?_
            refine WL.gtr rfl rfl rfl ?_
            refine WL.nil ?_
            refine WX.next ?_
            refine W.sub [(1, _), (4, _), (7, _), (8, _), (50, _)] (.cons rfl (.cons rfl (.cons rfl (.cons rfl (.cons rfl .nil))))) ?_
            refine W.ite rfl (fun c5 => ?_) (fun c5 => ?_)
            · refine W.seq ?_
              refine W.region ?_
              refine WL.build (places := #[(0, 1), (1, 1)]) Try.underlying31 Try.zeroValue31 (fun _ => by simp [Try.sizeOf5, Try.sizeOf22]) rfl rfl rfl ?_
              refine WL.storeW mR Try.sizeOf31 rfl rfl (by simp [Value.cells, Value.oneCell']) rfl rfl ?_
              intro w1 mS
              refine WL.assign rfl rfl ?_
              refine WL.assign rfl rfl ?_
              refine WL.nil ?_
              refine WX.next ?_
              refine W.sub [(4, _), (5, _), (6, _)] (.cons rfl (.cons rfl (.cons rfl .nil))) ?_
              refine W.ret ?_
              refine WX.thenRet ?_
              refine WX.retC3 rfl rfl rfl rfl Try.isAgg31 (by exact Try.sizeOf31) mS.cells ?_
              rw [getG_bad (e := 3) (by omega) (by omega) (by rw [← hr]; unfold getR; rw [if_neg g0, if_neg g1, if_neg g2, hf1, if_pos (by omega)]) (by omega)]; exact Got.none mS 3
            · have g3 : ¬ 1024 < n := by omega
              refine W.skip ?_
              refine WX.next ?_
              refine W.seq ?_
              refine W.region ?_
              refine WL.move rfl rfl ?_
              refine WL.conv Try.underlying24 Try.underlying3 rfl (by first | exact wI64 (by omega) | rfl) rfl ?_
              refine WL.add rfl rfl (by first | exact wI64 (by omega) | rfl) rfl ?_
              refine WL.assign rfl rfl ?_
              refine WL.nil ?_
              refine WX.next ?_
              refine W.sub [(1, _), (4, _), (7, _), (11, _)] (.cons rfl (.cons rfl (.cons rfl (.cons rfl .nil)))) ?_
              refine W.seq ?_
              refine W.seq ?_
              refine W.region ?_
              refine WL.move rfl rfl ?_
              refine WL.len Try.underlying22 rfl rfl ?_
              refine WL.move rfl rfl ?_
              refine WL.add rfl rfl (by first | exact wI64 (by omega) | rfl) rfl ?_
              refine WL.lss rfl rfl rfl ?_
              refine WL.nil ?_
              refine WX.next ?_
              refine W.sub [(1, _), (4, _), (7, _), (11, _), (59, _)] (.cons rfl (.cons rfl (.cons rfl (.cons rfl (.cons rfl .nil))))) ?_
              refine W.ite rfl (fun c6 => ?_) (fun c6 => ?_)
              · refine W.seq ?_
                refine W.region ?_
                refine WL.build (places := #[(0, 1), (1, 1)]) Try.underlying31 Try.zeroValue31 (fun _ => by simp [Try.sizeOf5, Try.sizeOf22]) rfl rfl rfl ?_
                refine WL.storeW mR Try.sizeOf31 rfl rfl (by simp [Value.cells, Value.oneCell']) rfl rfl ?_
                intro w1 mS
                refine WL.assign rfl rfl ?_
                refine WL.assign rfl rfl ?_
                refine WL.nil ?_
                refine WX.next ?_
                refine W.sub [(4, _), (5, _), (6, _)] (.cons rfl (.cons rfl (.cons rfl .nil))) ?_
                refine W.ret ?_
                refine WX.thenRet ?_
                refine WX.retC3 rfl rfl rfl rfl Try.isAgg31 (by exact Try.sizeOf31) mS.cells ?_
                rw [getG_bad (e := 10) (by omega) (by omega) (by rw [← hr]; unfold getR; rw [if_neg g0, if_neg g1, if_neg g2, hf1, if_neg g3, if_pos (by omega)]) (by omega)]; exact Got.none mS 10
              · have g4 : ¬ r.length < n + 10 := by omega
                obtain ⟨s, t2, e2, hf2⟩ : ∃ m t e, rdF r (6 + (n : Int)) = (m, t, e) := ⟨_, _, _, rfl⟩
                have hf3 : (rdF r (6 + (n : Int))).1 = s := by rw [hf2]
                have hL : ((6 : Int) + (n : Int)).toNat = (r.take (6 + n)).length := by rw [List.length_take]; omega
                refine W.skip ?_
                refine WX.next ?_
                refine W.seq ?_
                refine W.seq ?_
                refine W.region ?_
                refine WL.move rfl rfl ?_
                refine WL.move rfl rfl ?_
                refine WL.call Try.call9 rfl (Fixed_ok r (some ad) _ (6 + (n : Int)) w0 (hRr (h.mem mR)) (by omega) (by omega)) rfl ?_
                rintro _ _ ⟨rfl, rfl⟩
                rw [hf2, rdFv_tuple]
                refine WL.move rfl rfl ?_
                refine WL.extract rfl rfl rfl ?_
                refine WL.extract rfl rfl rfl ?_
                refine WL.extract rfl rfl rfl ?_
                refine WL.assign rfl rfl ?_
                refine WL.assign rfl rfl ?_
                refine WL.assign rfl rfl ?_
                refine WL.nil ?_
                refine WX.next ?_
                refine W.sub [(1, _), (4, _), (7, _), (11, _), (12, _)] (.cons rfl (.cons rfl (.cons rfl (.cons rfl (.cons rfl .nil))))) ?_
                refine W.seq ?_
                refine W.region ?_
                refine WL.move rfl rfl ?_
                refine WL.move rfl rfl ?_
                refine WL.move rfl rfl ?_
                have hcap : r.length ≤ cap - at_.toNat := by omega
                refine WL.sliceUpTo Try.underlying22 Try.sizeOf5 rfl rfl (by omega) (by omega) rfl ?_
                rw [hL]
                refine WL.buildS Try.elem22 mR rfl rfl rfl (by simp [Value.oneCell']) rfl rfl ?_
                intro g5 w5 m5
                refine WL.call Try.call5 rfl (Sum_ok (ps := [⟨some ad, cap - at_.toNat, r.take (6 + n)⟩]) m5.rdOwn (by intro x hx; rw [List.mem_singleton] at hx; subst hx; exact (hRr (h.mem m5)).pre _) (by simp) (by intro x hx; rw [List.mem_singleton] at hx; subst hx; dsimp only; rw [List.length_take]; omega)) rfl ?_
                rintro _ _ ⟨rfl, rfl⟩
                rw [show List.flatMap OX.l [⟨some ad, cap - at_.toNat, r.take (6 + n)⟩] = r.take (6 + n) by simp]
                refine WL.neI rfl rfl rfl ?_
                refine WL.nil ?_
                refine WX.next ?_
                refine W.sub [(1, _), (4, _), (7, _), (11, _), (74, _)] (.cons rfl (.cons rfl (.cons rfl (.cons rfl (.cons rfl .nil))))) ?_
                refine W.ite rfl (fun c7 => ?_) (fun c7 => ?_)
                · refine W.seq ?_
                  refine W.region ?_
                  refine WL.build (places := #[(0, 1), (1, 1)]) Try.underlying31 Try.zeroValue31 (fun _ => by simp [Try.sizeOf5, Try.sizeOf22]) rfl rfl rfl ?_
                  refine WL.storeW m5.f1 Try.sizeOf31 rfl rfl (by simp [Value.cells, Value.oneCell']) rfl rfl ?_
                  intro w6 mS
                  refine WL.assign rfl rfl ?_
                  refine WL.assign rfl rfl ?_
                  refine WL.nil ?_
                  refine WX.next ?_
                  refine W.sub [(4, _), (5, _), (6, _)] (.cons rfl (.cons rfl (.cons rfl .nil))) ?_
                  refine W.ret ?_
                  refine WX.thenRet ?_
                  refine WX.retC3 rfl rfl rfl rfl Try.isAgg31 (by exact Try.sizeOf31) mS.cells ?_
                  rw [getG_bad (e := 21) (by omega) (by omega) (by rw [← hr]; unfold getR; rw [if_neg g0, if_neg g1, if_neg g2, hf1, if_neg g3, if_neg g4, hf3, if_pos (by omega)]) (by omega)]; exact Got.none mS 21
                · have g5' : ¬ (s ≠ crc (r.take (6 + n))) := by omega
                  obtain ⟨x1, hx1⟩ : ∃ x, r[1]? = some x := ⟨_, List.getElem?_eq_getElem (by omega)⟩
                  obtain ⟨body, hbody⟩ : ∃ b, b = (r.drop 6).take n := ⟨_, rfl⟩
                  have hbl : body.length = n := by rw [hbody, List.length_take, List.length_drop]; omega
                  have hok : getG l at_ = (x1, body, at_ + ((n + 10 : Nat) : Int), 0) := getG_ok (by omega) (by omega) (by rw [← hr]; unfold getR; rw [if_neg g0, if_neg g1, if_neg g2, hf1, if_neg g3, if_neg g4, hf3, if_neg g5', hx1, hbody]; rfl)
                  have M0 := m5.tail.drew
                  obtain ⟨A3, hA3⟩ : ∃ A3, (if cap - at_.toNat = (6 : Int).toNat then some ad else (some ad).map (·.add ((6 : Int).toNat * 1))) = A3 := ⟨_, rfl⟩
                  have hRb : ∀ {w'}, RdB w' A cap l → RdB w' A3 (cap - at_.toNat - (6 : Int).toNat) body := fun h => by
                    have hc := (hRr h).cut (i := 6) (j := 6 + n) (by omega) (by omega)
                    rw [show 6 + n - 6 = n by omega, ← hbody] at hc
                    rw [← hA3]
                    exact hc
                  refine W.skip ?_
                  refine WX.next ?_
                  refine W.seq ?_
                  refine W.draw (by kernel_rfl) (fun w' => w'.cell? (ad.add 1) = some (.int .u8 (x1.toNat : Int))) (fun j => true) ?_
                  apply DG.take [0, 1, 2, 4, 5, 6, 9, 10, 11, 12] 6 rfl (by kernel_rfl) (by kernel_rfl) ((hRr (h.mem M0)).cellAt hx1)
                  · intro wS hS
                    refine WL.move rfl rfl ?_
                    refine WL.idxP (o' := 1) Try.underlying22 Try.sizeOf5 rfl rfl (by omega) (by omega) (by omega) rfl ?_
                    refine WL.load Try.isAgg5 rfl hS rfl ?_
                    refine WL.move rfl rfl ?_
                    refine WL.move rfl rfl ?_
                    refine WL.sliceLHX (m' := body.length) Try.underlying22 Try.sizeOf5 rfl rfl rfl (by omega) (by omega) (by omega) hA3 (by omega) rfl rfl ?_
                    refine WL.move rfl rfl ?_
                    refine WL.move rfl rfl ?_
                    refine WL.add rfl rfl (by first | exact wI64 (by omega) | rfl) rfl ?_
                    refine WL.add rfl rfl (by first | exact wI64 (by omega) | rfl) rfl ?_
                    exact Chain.end_ rfl
                  refine DG.step 3 5 rfl (by kernel_rfl) ?_
                  refine WL.buildS Try.elem5 M0 rfl rfl rfl (by simp [Value.oneCell']) rfl rfl ?_
                  intro g7 w7 m7
                  refine DG.go (G := fun j => true) (i := 3) (f' := 5) (done := [0, 1, 2, 4, 5, 6, 9, 10, 11, 12]) (fun _ => (hRr (h.mem m7)).cellAt hx1) ?_
                  refine DG.step 7 4 rfl (by kernel_rfl) ?_
                  refine WL.appendB (l := []) Try.elem5 rfl rfl m7 (hRb (h.mem m7)) rfl rfl (by simp; omega) rfl ?_
                  intro A8 cap8 w8 m8
                  refine DG.go (G := fun j => true) (i := 7) (f' := 4) (done := [0, 1, 2, 4, 5, 6, 9, 10, 11, 12, 3]) (fun _ => (hRr (h.mem m8)).cellAt hx1) ?_
                  apply DG.take [8] 3 rfl (by kernel_rfl) (by kernel_rfl) ((hRr (h.mem m8)).cellAt hx1)
                  · intro wS hS
                    refine WL.build (places := #[(0, 1), (1, 1)]) Try.underlying31 Try.zeroValue31 (fun _ => by simp [Try.sizeOf5, Try.sizeOf22]) rfl rfl rfl ?_
                    exact Chain.end_ rfl
                  refine DG.step 13 2 rfl (by kernel_rfl) ?_
                  refine WL.storeW m8.f1 Try.sizeOf31 rfl rfl (by simp [Value.cells, Value.oneCell']) rfl rfl ?_
                  intro w9 mS
                  refine DG.go (G := fun j => true) (i := 13) (f' := 2) (done := [0, 1, 2, 4, 5, 6, 9, 10, 11, 12, 3, 7, 8]) (fun _ => (hRr (h.mem mS)).cellAt hx1) ?_
                  apply DG.take [14, 15] 0 rfl (by kernel_rfl) (by kernel_rfl) ((hRr (h.mem mS)).cellAt hx1)
                  · intro wS hS
                    refine WL.assign rfl rfl ?_
                    refine WL.assign rfl rfl ?_
                    exact Chain.end_ rfl
                  refine DG.end_ (by kernel_rfl) ?_
                  refine WX.next ?_
                  refine W.sub [(4, _), (5, _), (6, _)] (.cons rfl (.cons rfl (.cons rfl .nil))) ?_
                  refine W.ret ?_
                  refine WX.retC3 rfl rfl rfl rfl Try.isAgg31 (by exact Try.sizeOf31) mS.cells ?_
                  rw [hok]; exact ⟨A8, cap8, by rw [show at_ + (6 + (n : Int)) + 4 = at_ + ((n + 10 : Nat) : Int) by omega]; rfl, mS.tail⟩
end Go.Proofs.Ytciadcalnindgaa
