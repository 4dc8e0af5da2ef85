/-
  Walks: strings.Cut; the pairs of bytes (pdu.Texts).
-/
import Derived.Test.YtinbcidgdbmcjaaTextLaw
namespace Go.Proofs.Ytinbcidgdbmcjaa
open Go Go.RowKit Go.Lib Bin

section
variable {P : Program} {n : Nat} {ρ : List (Nat × Value)} {w : World} {rest : List Oper} {X : SqV P n}
variable {d : Nat} {ty : TypeId} {pos : String} {aft : Array Edge} {x lo hi : Operand} {t : TypeId}
theorem str_extract (l : List UInt8) (a b : Nat) : (ByteArray.mk l.toArray).extract a b = ByteArray.mk ((l.drop a).take (b - a)).toArray := by
  apply ByteArray.ext
  simp
/-- A text up to a place. -/
theorem WL.sliceSH {l : List UInt8} {k : IntKind} {z : Int} (b : Nat) (ht : P.underlying t = some .string) (hx : ev ρ x = some (str l)) (hh : ev ρ hi = some (.int k z)) (hz : z = (b : Int)) (hb : b ≤ l.length) (hd : Nat.blt d n = true)
    (kk : X.S rest ((d, str (l.take b)) :: ρ) w) : X.S (⟨some d, .slice t x none (some hi) none, ty, pos, aft, none⟩ :: rest) ρ w := by
  subst hz
  refine WL.val rfl rfl hd (fun f hf => ?_) kk
  have e := str_extract l 0 b
  rw [List.drop_zero, Nat.sub_zero] at e
  simp [execOp, hf.eval hx, hf.eval hh, str, Instr.sliceAt, Instr.slice, run_underlying ht, Instr.sliceBounds, run_sliceBound, str_size, hb, e]
/-- A text from a place on. -/
theorem WL.sliceSL {l : List UInt8} {k : IntKind} {z : Int} (a : Nat) (ht : P.underlying t = some .string) (hx : ev ρ x = some (str l)) (hl : ev ρ lo = some (.int k z)) (hz : z = (a : Int)) (ha : a ≤ l.length) (hd : Nat.blt d n = true)
    (kk : X.S rest ((d, str (l.drop a)) :: ρ) w) : X.S (⟨some d, .slice t x (some lo) none none, ty, pos, aft, none⟩ :: rest) ρ w := by
  subst hz
  refine WL.val rfl rfl hd (fun f hf => ?_) kk
  have e := str_extract l a l.length
  rw [List.take_of_length_le (by rw [List.length_drop]; omega)] at e
  simp [execOp, hf.eval hx, hf.eval hl, str, Instr.sliceAt, Instr.slice, run_underlying ht, Instr.sliceBounds, run_sliceBound, str_size, ha, e]
end
theorem indexByte_lt {l : List UInt8} {c : UInt8} (h : 0 ≤ indexByte l c) : indexByte l c < (l.length : Int) := by
  have hm : c ∈ l := Classical.not_not.1 fun q => by have := indexByte_neg.2 q; omega
  obtain ⟨k, r, rfl, hk⟩ := indexByte_split hm
  rw [indexByte_at hk, List.length_append, List.length_cons]
  omega
theorem index_same (c : UInt8) : indexByte [c] c = 0 := by simp [indexByte]
theorem Index_ok (l : List UInt8) (c : UInt8) (w : World) : Fn Try.prog 66 [str l, str [c]] w fun v w' => v = .int .i64 (indexByte l c) ∧ w' = w := by
  have M := Mem.refl w
  refine Fn.enter Try.func66 rfl Try.ntmps66 rfl ?_
  refine W.sub [(0, _), (1, _)] (.cons rfl (.cons rfl .nil)) ?_
  refine W.seq ?_
  refine W.region ?_
  refine WL.assign rfl rfl ?_
  refine WL.nil ?_
  refine WX.next ?_
  refine W.sub [(0, _), (1, _)] (.cons rfl (.cons rfl .nil)) ?_
  refine W.seq ?_
  refine W.region ?_
  refine WL.move rfl rfl ?_
  refine WL.lenS Try.underlying9 rfl rfl ?_
  refine WL.assign rfl rfl ?_
  refine WL.nil ?_
  refine WX.next ?_
  refine W.sub [(0, _), (1, _), (5, _)] (.cons rfl (.cons rfl (.cons rfl .nil))) ?_
  refine W.seq ?_
  refine W.block ?_
  refine W.seq ?_
  refine W.region ?_
  refine WL.move rfl rfl ?_
  refine WL.eqI rfl rfl rfl ?_
  refine WL.moveIf rfl rfl (fun c0 => ?_) (fun c0 => ?_)
  · exact absurd c0 (by simp)
  · refine WL.on rfl rfl ?_
    refine WL.move rfl rfl ?_
    refine WL.on rfl rfl ?_
    refine WL.move rfl rfl ?_
    refine WL.on rfl rfl ?_
    refine WL.eqS rfl rfl rfl ?_
    refine WL.pickF rfl rfl rfl ?_
    refine WL.assign rfl rfl ?_
    refine WL.nil ?_
    refine WX.next ?_
    refine W.sub [(0, _), (1, _), (5, _), (16, _)] (.cons rfl (.cons rfl (.cons rfl (.cons rfl .nil)))) ?_
    refine W.ite rfl (fun c1 => ?_) (fun c1 => ?_)
    · refine W.seq ?_
      refine W.region ?_
      refine WL.assign rfl rfl ?_
      refine WL.nil ?_
      refine WX.next ?_
      refine W.sub [(4, _)] (.cons rfl .nil) ?_
      refine W.ret ?_
      refine WX.blockRet ?_
      refine WX.thenRet ?_
      refine WX.ret1 rfl rfl ?_
      exact ⟨by first | (have h1 : [c] = l := by assumption); rw [← h1, index_same], rfl⟩
    · refine W.seq ?_
      refine W.region ?_
      refine WL.move rfl rfl ?_
      refine WL.eqI rfl rfl rfl ?_
      refine WL.assign rfl rfl ?_
      refine WL.nil ?_
      refine WX.next ?_
      refine W.sub [(0, _), (1, _), (5, _), (24, _)] (.cons rfl (.cons rfl (.cons rfl (.cons rfl .nil)))) ?_
      refine W.ite rfl (fun c2 => ?_) (fun c2 => ?_)
      · refine W.seq ?_
        refine W.region ?_
        refine WL.move rfl rfl ?_
        refine WL.move rfl rfl ?_
        refine WL.indexS (b := c) Try.underlying9 rfl rfl (by decide) rfl rfl ?_
        refine WL.call Try.call59 rfl (IndexByteL_ok l c _) rfl ?_
        rintro _ _ ⟨rfl, rfl⟩
        refine WL.assign rfl rfl ?_
        refine WL.nil ?_
        refine WX.next ?_
        refine W.sub [(4, _)] (.cons rfl .nil) ?_
        refine W.ret ?_
        refine WX.blockRet ?_
        refine WX.thenRet ?_
        refine WX.ret1 rfl rfl ?_
        exact ⟨rfl, rfl⟩
      · exact absurd rfl c2
def cutA1 (s : List UInt8) (c : UInt8) : List UInt8 := if 0 ≤ indexByte s c then s.take (indexByte s c).toNat else s
def cutA2 (s : List UInt8) (c : UInt8) : List UInt8 := if 0 ≤ indexByte s c then s.drop ((indexByte s c).toNat + 1) else []
theorem CutL_ok (l : List UInt8) (c : UInt8) (hl : l.length ≤ 1000000) (w0 : World) : Fn Try.prog 61 [str l, str [c]] w0 fun v w' => v = .tuple #[str (cutA1 l c), str (cutA2 l c), .bool (decide (0 ≤ indexByte l c))] ∧ Mem w0 w' [] := by
  have M := Mem.refl w0
  obtain ⟨w, hw⟩ : ∃ w, w = w0 := ⟨w0, rfl⟩
  refine Fn.enter Try.func61 rfl Try.ntmps61 rfl ?_
  refine W.sub [(0, _), (1, _)] (.cons rfl (.cons rfl .nil)) ?_
  refine W.seq ?_
  refine W.region ?_
  refine WL.assign rfl rfl ?_
  refine WL.assign rfl rfl ?_
  refine WL.assign rfl rfl ?_
  refine WL.nil ?_
  refine WX.next ?_
  refine W.sub [(0, _), (1, _)] (.cons rfl (.cons rfl .nil)) ?_
  refine W.seq ?_
  refine W.seq ?_
  refine W.region ?_
  refine WL.move rfl rfl ?_
  refine WL.move rfl rfl ?_
  refine WL.call Try.call66 rfl (Index_ok l c _) rfl ?_
  rintro _ _ ⟨rfl, rfl⟩
  refine WL.assign rfl rfl ?_
  refine WL.nil ?_
  refine WX.next ?_
  refine W.sub [(0, _), (1, _), (7, _)] (.cons rfl (.cons rfl (.cons rfl .nil))) ?_
  refine W.seq ?_
  refine W.region ?_
  refine WL.move rfl rfl ?_
  refine WL.geq rfl rfl rfl ?_
  refine WL.nil ?_
  refine WX.next ?_
  refine W.sub [(0, _), (1, _), (7, _), (12, _)] (.cons rfl (.cons rfl (.cons rfl (.cons rfl .nil)))) ?_
  refine W.ite rfl (fun c0 => ?_) (fun c0 => ?_)
  · have hlt := indexByte_lt (l := l) (c := c) c0
    obtain ⟨i, hi⟩ : ∃ i : Nat, indexByte l c = (i : Int) := ⟨(indexByte l c).toNat, by omega⟩
    have e1 : cutA1 l c = l.take i := by unfold cutA1; rw [if_pos c0, hi, Int.toNat_natCast]
    have e2 : cutA2 l c = l.drop (i + 1) := by unfold cutA2; rw [if_pos c0, hi, Int.toNat_natCast]
    rw [hi] at hlt ⊢
    refine W.seq ?_
    refine W.drawM (_) (by kernel_rfl) (fun _ => false) M Sel.refl ?_
    clear M; intro M
    apply DG.pure_ [0, 1, 2, 3, 4, 5, 6, 7, 8, 9, 10, 11] 0 rfl (by kernel_rfl) (by kernel_rfl)
    · intro w
      refine WL.move rfl rfl ?_
      refine WL.move rfl rfl ?_
      refine WL.sliceSH i Try.underlying9 rfl rfl rfl (by omega) rfl ?_
      refine WL.move rfl rfl ?_
      refine WL.move rfl rfl ?_
      refine WL.move rfl rfl ?_
      refine WL.lenS Try.underlying9 rfl rfl ?_
      refine WL.add rfl rfl (show IntKind.i64.wrap ((i : Int) + (([c] : List UInt8).length : Int)) = ((i + 1 : Nat) : Int) by rw [show (([c] : List UInt8).length : Int) = 1 from rfl, wI64 (by omega)]; omega) rfl ?_
      refine WL.sliceSL (i + 1) Try.underlying9 rfl rfl rfl (by omega) rfl ?_
      refine WL.assign rfl rfl ?_
      refine WL.assign rfl rfl ?_
      refine WL.assign rfl rfl ?_
      exact Chain.end_ rfl
    refine DG.end_ (by kernel_rfl) ?_
    refine WX.next ?_
    refine W.sub [(4, _), (5, _), (6, _)] (.cons rfl (.cons rfl (.cons rfl .nil))) ?_
    refine W.ret ?_
    refine WX.thenRet ?_
    refine WX.ret3 rfl rfl rfl rfl ?_
    exact ⟨by rw [e1, e2, decide_eq_true (by omega)], M.sel (by first | ((repeat (first | with_reducible exact Sel.refl | with_reducible exact Sel.nil | with_reducible exact Del.here | with_reducible apply Del.there | with_reducible apply Sel.cons | with_reducible apply Sel.drop)); done) | (repeat (first | exact Sel.refl | exact Sel.nil | exact Del.here | apply Del.there | apply Sel.cons | apply Sel.drop)))⟩
  · refine W.skip ?_
    refine WX.next ?_
    refine W.seq ?_
    refine W.region ?_
    refine WL.move rfl rfl ?_
    refine WL.assign rfl rfl ?_
    refine WL.assign rfl rfl ?_
    refine WL.assign rfl rfl ?_
    refine WL.nil ?_
    refine WX.next ?_
    refine W.sub [(4, _), (5, _), (6, _)] (.cons rfl (.cons rfl (.cons rfl .nil))) ?_
    refine W.ret ?_
    refine WX.ret3 rfl rfl rfl rfl ?_
    exact ⟨by unfold cutA1 cutA2; rw [if_neg c0, if_neg c0, decide_eq_false c0]; rfl, M.sel (by first | ((repeat (first | with_reducible exact Sel.refl | with_reducible exact Sel.nil | with_reducible exact Del.here | with_reducible apply Del.there | with_reducible apply Sel.cons | with_reducible apply Sel.drop)); done) | (repeat (first | exact Sel.refl | exact Sel.nil | exact Del.here | apply Del.there | apply Sel.cons | apply Sel.drop)))⟩
theorem Cut_ok (l : List UInt8) (c : UInt8) (hl : l.length ≤ 1000000) (w0 : World) : Fn Try.prog 52 [str l, str [c]] w0 fun v w' => v = .tuple #[str (cutA1 l c), str (cutA2 l c), .bool (decide (0 ≤ indexByte l c))] ∧ Mem w0 w' [] := by
  have M := Mem.refl w0
  obtain ⟨w, hw⟩ : ∃ w, w = w0 := ⟨w0, rfl⟩
  refine Fn.enter Try.func52 rfl Try.ntmps52 rfl ?_
  refine W.sub [(0, _), (1, _)] (.cons rfl (.cons rfl .nil)) ?_
  refine W.seq ?_
  refine W.region ?_
  refine WL.assign rfl rfl ?_
  refine WL.assign rfl rfl ?_
  refine WL.assign rfl rfl ?_
  refine WL.nil ?_
  refine WX.next ?_
  refine W.sub [(0, _), (1, _)] (.cons rfl (.cons rfl .nil)) ?_
  refine W.seq ?_
  refine W.region ?_
  refine WL.move rfl rfl ?_
  refine WL.move rfl rfl ?_
  refine WL.call Try.call61 rfl (CutL_ok l c hl _) rfl ?_
  rintro _ w ⟨rfl, m⟩
  replace M := M.call0 m; clear m
  refine WL.extractL rfl rfl rfl ?_
  refine WL.extractL rfl rfl rfl ?_
  refine WL.extractL rfl rfl rfl ?_
  refine WL.assign rfl rfl ?_
  refine WL.assign rfl rfl ?_
  refine WL.assign rfl rfl ?_
  refine WL.nil ?_
  refine WX.next ?_
  refine W.sub [(4, _), (5, _), (6, _)] (.cons rfl (.cons rfl (.cons rfl .nil))) ?_
  refine W.ret ?_
  refine WX.ret3 rfl rfl rfl rfl ?_
  exact ⟨rfl, M.sel (by first | ((repeat (first | with_reducible exact Sel.refl | with_reducible exact Sel.nil | with_reducible exact Del.here | with_reducible apply Del.there | with_reducible apply Sel.cons | with_reducible apply Sel.drop)); done) | (repeat (first | exact Sel.refl | exact Sel.nil | exact Del.here | apply Del.there | apply Sel.cons | apply Sel.drop)))⟩
theorem txt_len (p : Pr) : (txt p).length = p.1.length + p.2.length + 2 := by unfold txt; simp; omega
theorem putT_mem : ∀ {l : List Pr} {p : Pr}, p ∈ l → p.1.length + p.2.length ≤ (putT l).length
  | [], _, h => absurd h (by simp)
  | q :: l, p, h => by
    have e : putT (q :: l) = txt q ++ putT l := rfl
    rw [e, List.length_append]
    rcases List.mem_cons.1 h with rfl | h
    · have := txt_len p
      omega
    · have := putT_mem h
      omega
theorem putT_len2 : ∀ (l : List Pr), 2 * l.length ≤ (putT l).length
  | [] => by simp
  | q :: l => by
    have e : putT (q :: l) = txt q ++ putT l := rfl
    have := txt_len q
    have := putT_len2 l
    rw [e, List.length_append, List.length_cons]
    omega
theorem putT_snoc (l : List Pr) (p : Pr) : putT (l ++ [p]) = putT l ++ txt p := by unfold putT; simp
set_option maxRecDepth 10000 in
theorem Texts_ok {A : Option Addr} {cap : Nat} {b : List UInt8} (hl : b.length ≤ 50000) {w0 : World} (h : RdB w0 A cap b) :
    Fn Try.prog 32 [.slice A b.length cap] w0 fun v w' => ∃ (B : Option Addr) (cB : Nat), v = .tuple #[.slice B (textsL b).length cB, .int .i64 (textsE b)] ∧ Mem w0 w' [Asr.lst pairE B cB (textsL b)] := by
  have M := Mem.refl w0
  obtain ⟨w, hw⟩ : ∃ w, w = w0 := ⟨w0, rfl⟩
  have bad : ∀ (w : World) (L : List Asr), Mem w0 w L → textsE b = 200 ∧ textsL b = [] → ∃ (B : Option Addr) (cB : Nat), Value.tuple #[.slice none 0 0, .int .i64 200] = .tuple #[.slice B (textsL b).length cB, .int .i64 (textsE b)] ∧ Mem w0 w [Asr.lst pairE B cB (textsL b)] := by
    intro w L M hq
    rw [hq.1, hq.2]
    exact ⟨none, 0, rfl, (M.sel (.nil)).nilOwn 68 2⟩
  refine Fn.enter Try.func32 rfl Try.ntmps32 rfl ?_
  refine W.sub [(0, _)] (.cons rfl .nil) ?_
  refine W.seq ?_
  refine W.region ?_
  refine WL.assign rfl rfl ?_
  refine WL.assign rfl rfl ?_
  refine WL.nil ?_
  refine WX.next ?_
  refine W.sub [(0, _)] (.cons rfl .nil) ?_
  refine W.seq ?_
  refine W.region ?_
  refine WL.assign rfl rfl ?_
  refine WL.nil ?_
  refine WX.next ?_
  refine W.sub [(0, _), (4, _)] (.cons rfl (.cons rfl .nil)) ?_
  refine W.seq ?_
  have M2 : Mem w0 _ (Asr.lst pairE none 0 [] :: _) := M.nilOwn 68 2
  replace M := M2
  refine W.region ?_
  refine WL.move rfl rfl ?_
  refine WL.toStr Try.underlying25 Try.underlying5 Try.underlying9 rfl (h.mem M) rfl rfl ?_
  refine WL.assign rfl rfl ?_
  refine WL.nil ?_
  refine WX.next ?_
  refine W.sub [(4, _), (5, _)] (.cons rfl (.cons rfl .nil)) ?_
  refine W.joint (fun (z : List Pr × (Option Addr × Nat)) => [(4, .slice z.2.1 z.1.length z.2.2)]) (fun j w => Mem w0 w ((fun z => [Asr.lst pairE z.2.1 z.2.2 z.1]) j) ∧ (fun z => allT [] b = some z.1 ∧ (putT z.1).length ≤ b.length ∧ z.1.length ≤ 33) j) ?_ ?_
  · refine W.block ?_
    refine W.loop (ι := List Pr × List UInt8 × (Option Addr × Nat)) (fun z => [(4, .slice z.2.2.1 z.1.length z.2.2.2), (5, str z.2.1)]) (fun zz w => Mem w0 w ((fun z => [Asr.lst pairE z.2.2.1 z.2.2.2 z.1]) zz) ∧ (fun z => allT z.1 z.2.1 = allT [] b ∧ putT z.1 ++ z.2.1 = b ∧ z.1.length ≤ 33) zz) (fun z => z.2.1.length) (([], b, (none, 0))) (by (repeat' (first | exact envSub.nil | refine envSub.cons ?_ ?_)) <;> first | rfl | (refine congrArg some ?_; refine congrArg (Value.int _) ?_; first | omega | (dsimp only; omega)) | (simp; done) | (refine congrArg some ?_; dsimp only; congr 1; omega) | (simp; omega)) ⟨M.sel (by first | ((repeat (first | with_reducible exact Sel.refl | with_reducible exact Sel.nil | with_reducible exact Del.here | with_reducible apply Del.there | with_reducible apply Sel.cons | with_reducible apply Sel.drop)); done) | (repeat (first | exact Sel.refl | exact Sel.nil | exact Del.here | apply Del.there | apply Sel.cons | apply Sel.drop))), ⟨rfl, rfl, Nat.zero_le _⟩⟩ ?_
    clear M; rintro (⟨l, rest, ⟨B, cB⟩⟩) w ⟨M, ⟨hall, hput, h33⟩⟩; dsimp only at M hall hput h33 ⊢
    have hrl : (putT l).length + rest.length = b.length := by rw [← hput, List.length_append]
    refine W.sub [(4, _), (5, _)] (.cons rfl (.cons rfl .nil)) ?_
    refine W.seq ?_
    refine W.seq ?_
    refine W.region ?_
    refine WL.move rfl rfl ?_
    refine WL.neS rfl rfl rfl ?_
    refine WL.moveIf rfl rfl (fun c0 => ?_) (fun c0 => ?_)
    · refine WL.on rfl rfl ?_
      refine WL.move rfl rfl ?_
      refine WL.on rfl rfl ?_
      refine WL.len Try.underlying66 rfl rfl ?_
      refine WL.on rfl rfl ?_
      refine WL.leq rfl rfl rfl ?_
      refine WL.pickT rfl rfl rfl ?_
      refine WL.nil ?_
      refine WX.next ?_
      refine W.sub [(4, _), (5, _), (22, _)] (.cons rfl (.cons rfl (.cons rfl .nil))) ?_
      refine W.ite rfl (fun c1 => ?_) (fun c1 => ?_)
      · have hno : ¬ (rest = [] ∨ 32 < l.length) := by rintro (e | e); exact c0 e; omega
        obtain ⟨i, hi⟩ : ∃ i, indexByte rest 0 = i := ⟨_, rfl⟩
        obtain ⟨one, hone⟩ : ∃ one, cutA1 rest 0 = one := ⟨_, rfl⟩
        have hol : one.length ≤ rest.length := by rw [← hone]; unfold cutA1; split; rw [List.length_take]; omega; exact Nat.le_refl _
        refine W.skip ?_
        refine WX.next ?_
        refine W.block ?_
        refine W.seq ?_
        refine W.region ?_
        refine WL.move rfl rfl ?_
        refine WL.call Try.call52 rfl (Cut_ok rest 0 (by omega) _) rfl ?_
        rintro _ w ⟨rfl, m⟩
        replace M := M.call0 m; clear m
        rw [hone, hi]
        refine WL.move rfl rfl ?_
        refine WL.extractL rfl rfl rfl ?_
        refine WL.extractL rfl rfl rfl ?_
        refine WL.extractL rfl rfl rfl ?_
        refine WL.assign rfl rfl ?_
        refine WL.assign rfl rfl ?_
        refine WL.assign rfl rfl ?_
        refine WL.nil ?_
        refine WX.next ?_
        refine W.sub [(4, _), (6, _), (7, _), (8, _)] (.cons rfl (.cons rfl (.cons rfl (.cons rfl .nil)))) ?_
        refine W.seq ?_
        refine W.region ?_
        refine WL.move rfl rfl ?_
        refine WL.call Try.call52 rfl (Cut_ok one 61 (by omega) _) rfl ?_
        rintro _ w ⟨rfl, m⟩
        replace M := M.call0 m; clear m
        refine WL.move rfl rfl ?_
        refine WL.extractL rfl rfl rfl ?_
        refine WL.extractL rfl rfl rfl ?_
        refine WL.extractL rfl rfl rfl ?_
        refine WL.assign rfl rfl ?_
        refine WL.assign rfl rfl ?_
        refine WL.assign rfl rfl ?_
        refine WL.nil ?_
        refine WX.next ?_
        refine W.sub [(4, _), (7, _), (8, _), (9, _), (10, _), (11, _)] (.cons rfl (.cons rfl (.cons rfl (.cons rfl (.cons rfl (.cons rfl .nil)))))) ?_
        refine W.seq ?_
        refine W.seq ?_
        refine W.region ?_
        refine WL.move rfl rfl ?_
        refine WL.not rfl rfl ?_
        refine WL.moveIfB rfl rfl (fun c2 => ?_) (fun c2 => ?_)
        · refine WL.off rfl rfl rfl rfl ?_
          refine WL.off rfl rfl rfl rfl ?_
          refine WL.pickT rfl rfl rfl ?_
          refine WL.nil ?_
          refine WX.next ?_
          refine W.sub [(4, _), (7, _), (9, _), (10, _), (40, _)] (.cons rfl (.cons rfl (.cons rfl (.cons rfl (.cons rfl .nil))))) ?_
          refine W.condT rfl ?_
          refine W.seq ?_
          refine W.region ?_
          refine WL.assign rfl rfl ?_
          refine WL.assign rfl rfl ?_
          refine WL.nil ?_
          refine WX.next ?_
          refine W.sub [(2, _), (3, _)] (.cons rfl (.cons rfl .nil)) ?_
          refine W.ret ?_
          refine WX.thenRet ?_
          refine WX.blockRet ?_
          refine WX.thenRet ?_
          refine WX.blockRet ?_
          refine WX.thenRet ?_
          refine WX.ret2 rfl rfl rfl ?_
          have hst : stepT rest = none := by
            unfold stepT
            first
            | (rw [hi, if_pos (by simpa using c2)])
            | (have hi0 : 0 ≤ i := by simpa using c2
               have h1 : rest.take i.toNat = one := by rw [← hone]; unfold cutA1; rw [hi, if_pos hi0]
               rw [hi, if_neg (by omega), h1, if_pos (by simpa using c3)])
          exact bad _ _ M (texts_none (by rw [← hall]; exact allT_none hno hst))
        · refine WL.on rfl rfl ?_
          refine WL.move rfl rfl ?_
          refine WL.on rfl rfl ?_
          refine WL.not rfl rfl ?_
          refine WL.pickF rfl rfl rfl ?_
          refine WL.nil ?_
          refine WX.next ?_
          refine W.sub [(4, _), (7, _), (9, _), (10, _), (40, _)] (.cons rfl (.cons rfl (.cons rfl (.cons rfl (.cons rfl .nil))))) ?_
          refine W.cond rfl (fun c3 => ?_) (fun c3 => ?_)
          · (try simp only [Bool.not_eq_true'] at c3); (try simp only [Bool.not_eq_false'] at c3); (try simp only [decide_eq_true_eq] at c3); (try simp only [decide_eq_false_iff_not] at c3)
            refine W.seq ?_
            refine W.region ?_
            refine WL.assign rfl rfl ?_
            refine WL.assign rfl rfl ?_
            refine WL.nil ?_
            refine WX.next ?_
            refine W.sub [(2, _), (3, _)] (.cons rfl (.cons rfl .nil)) ?_
            refine W.ret ?_
            refine WX.thenRet ?_
            refine WX.blockRet ?_
            refine WX.thenRet ?_
            refine WX.blockRet ?_
            refine WX.thenRet ?_
            refine WX.ret2 rfl rfl rfl ?_
            have hst : stepT rest = none := by
              unfold stepT
              first
              | (rw [hi, if_pos (by simpa using c2)])
              | (have hi0 : 0 ≤ i := by simpa using c2
                 have h1 : rest.take i.toNat = one := by rw [← hone]; unfold cutA1; rw [hi, if_pos hi0]
                 rw [hi, if_neg (by omega), h1, if_pos (by simpa using c3)])
            exact bad _ _ M (texts_none (by rw [← hall]; exact allT_none hno hst))
          · (try simp only [Bool.not_eq_true'] at c3); (try simp only [Bool.not_eq_false'] at c3); (try simp only [decide_eq_true_eq] at c3); (try simp only [decide_eq_false_iff_not] at c3)
            have hi0 : 0 ≤ i := by simpa using c2
            have h1 : rest.take i.toNat = one := by rw [← hone]; unfold cutA1; rw [hi, if_pos hi0]
            have hj0 : 0 ≤ indexByte one 61 := by simpa using c3
            have hst : stepT rest = some ((cutA1 one 61, cutA2 one 61), cutA2 rest 0) := by
              unfold stepT cutA1 cutA2
              rw [hi, if_neg (by omega), h1, if_neg (by omega), if_pos hi0, if_pos hj0, if_pos hj0]
            obtain ⟨h3, h4⟩ := stepT_less hst
            refine W.skip ?_
            refine WX.next ?_
            refine W.seq ?_
            refine W.region ?_
            refine WL.move rfl rfl ?_
            refine WL.move rfl rfl ?_
            refine WL.move rfl rfl ?_
            refine WL.buildP (places := #[(0, 1), (1, 1)]) Try.underlying68 Try.zeroValue68 (fun _ => by simp [Try.sizeOf9, Try.sizeOf9]) rfl (by repeat (first | exact Puts.nil | exact SetAt.zero | apply SetAt.succ | apply Puts.cons rfl rfl)) rfl ?_
            refine WL.buildL (E := pairE) (l := [(cutA1 one 61, cutA2 one 61)]) Try.elem68 M rfl rfl rfl rfl rfl rfl ?_
            intro g8_4 w M
            refine WL.appendL (E := pairE) Try.elem68 rfl rfl M (by first | ((repeat (first | with_reducible exact Del.here | with_reducible apply Del.there)); done) | (repeat (first | exact Del.here | apply Del.there))) (by first | with_reducible assumption | with_reducible exact RdL.mem (by with_reducible assumption) M | exact M.rdL (by first | ((repeat (first | with_reducible exact Has.here | with_reducible refine Has.there ?_)); done) | (repeat (first | exact Has.here | refine Has.there ?_))) | exact RdLH.at (by assumption) (M.sel (by first | ((repeat (first | with_reducible exact Sel.refl | with_reducible exact Sel.nil | with_reducible exact Del.here | with_reducible apply Del.there | with_reducible apply Sel.cons | with_reducible apply Sel.drop)); done) | (repeat (first | exact Sel.refl | exact Sel.nil | exact Del.here | apply Del.there | apply Sel.cons | apply Sel.drop)))) | exact RdL.nil _ _ _) rfl rfl (by simp only [List.length_cons, List.length_nil]; omega) (by simp only [maxLen, List.length_cons, List.length_nil]; omega) rfl ?_
            intro A8_5 cap8_5 w M
            refine WL.assign rfl rfl ?_
            refine WL.nil ?_
            refine WX.next ?_
            refine W.sub [(4, _), (7, _)] (.cons rfl (.cons rfl .nil)) ?_
            refine W.region ?_
            refine WL.move rfl rfl ?_
            refine WL.assign rfl rfl ?_
            refine WL.nil ?_
            refine WX.blockNormal ?_
            skip
            have q1 : allT (l ++ [(cutA1 one 61, cutA2 one 61)]) (cutA2 rest 0) = allT [] b := by rw [← hall]; exact (allT_step hno hst).symm
            have q2 : putT (l ++ [(cutA1 one 61, cutA2 one 61)]) ++ cutA2 rest 0 = b := by rw [putT_snoc, List.append_assoc, ← h4]; exact hput
            refine WX.round ((l ++ [(cutA1 one 61, cutA2 one 61)], cutA2 rest 0, (A8_5, cap8_5))) (by (repeat' (first | exact envSub.nil | refine envSub.cons ?_ ?_)) <;> first | rfl | (refine congrArg some ?_; refine congrArg (Value.int _) ?_; first | omega | (dsimp only; omega)) | (simp; done) | (refine congrArg some ?_; dsimp only; congr 1; omega) | (simp; omega)) ⟨M.sel (by first | ((repeat (first | with_reducible exact Sel.refl | with_reducible exact Sel.nil | with_reducible exact Del.here | with_reducible apply Del.there | with_reducible apply Sel.cons | with_reducible apply Sel.drop)); done) | (repeat (first | exact Sel.refl | exact Sel.nil | exact Del.here | apply Del.there | apply Sel.cons | apply Sel.drop))), ⟨q1, q2, by rw [List.length_append, List.length_singleton]; omega⟩⟩ (by exact h3)
      · refine W.exit ?_
        refine WX.thenExit ?_
        refine WX.thenExit ?_
        refine WX.blockHere ?_
        refine WX.join ((l, (B, cB))) (by (repeat' (first | exact envSub.nil | refine envSub.cons ?_ ?_)) <;> first | rfl | (refine congrArg some ?_; refine congrArg (Value.int _) ?_; first | omega | (dsimp only; omega)) | (simp; done) | (refine congrArg some ?_; dsimp only; congr 1; omega) | (simp; omega)) ⟨M.sel (by first | ((repeat (first | with_reducible exact Sel.refl | with_reducible exact Sel.nil | with_reducible exact Del.here | with_reducible apply Del.there | with_reducible apply Sel.cons | with_reducible apply Sel.drop)); done) | (repeat (first | exact Sel.refl | exact Sel.nil | exact Del.here | apply Del.there | apply Sel.cons | apply Sel.drop))), ⟨by rw [← hall]; exact allT_end (by first | exact .inl (Classical.not_not.1 c0) | exact .inr (by omega)), by dsimp only; omega, h33⟩⟩
    · refine WL.off rfl rfl rfl rfl ?_
      refine WL.off rfl rfl rfl rfl ?_
      refine WL.off rfl rfl rfl rfl ?_
      refine WL.pickF rfl rfl rfl ?_
      refine WL.nil ?_
      refine WX.next ?_
      refine W.sub [(4, _), (5, _), (22, _)] (.cons rfl (.cons rfl (.cons rfl .nil))) ?_
      refine W.condF rfl ?_
      refine W.exit ?_
      refine WX.thenExit ?_
      refine WX.thenExit ?_
      refine WX.blockHere ?_
      refine WX.join ((l, (B, cB))) (by (repeat' (first | exact envSub.nil | refine envSub.cons ?_ ?_)) <;> first | rfl | (refine congrArg some ?_; refine congrArg (Value.int _) ?_; first | omega | (dsimp only; omega)) | (simp; done) | (refine congrArg some ?_; dsimp only; congr 1; omega) | (simp; omega)) ⟨M.sel (by first | ((repeat (first | with_reducible exact Sel.refl | with_reducible exact Sel.nil | with_reducible exact Del.here | with_reducible apply Del.there | with_reducible apply Sel.cons | with_reducible apply Sel.drop)); done) | (repeat (first | exact Sel.refl | exact Sel.nil | exact Del.here | apply Del.there | apply Sel.cons | apply Sel.drop))), ⟨by rw [← hall]; exact allT_end (by first | exact .inl (Classical.not_not.1 c0) | exact .inr (by omega)), by dsimp only; omega, h33⟩⟩
  clear M; rintro (⟨l, ⟨B, cB⟩⟩) w ⟨M, ⟨hall, hpl, h33⟩⟩; dsimp only at M hall hpl h33 ⊢
  refine W.sub [(4, _)] (.cons rfl .nil) ?_
  refine W.seq ?_
  refine W.seq ?_
  refine W.region ?_
  refine WL.move rfl rfl ?_
  refine WL.call Try.call30 rfl (PutTexts_ok (l := l) (by omega) (by intro p hp; have := putT_mem hp; omega) (M.rdL (by first | ((repeat (first | with_reducible exact Has.here | with_reducible refine Has.there ?_)); done) | (repeat (first | exact Has.here | refine Has.there ?_))))) rfl ?_
  rintro _ w ⟨x', rfl, m, -⟩
  replace M := M.call1 m; clear m
  refine WL.move rfl rfl ?_
  refine WL.extractL rfl rfl rfl ?_
  refine WL.extractL rfl rfl rfl ?_
  refine WL.assign rfl rfl ?_
  refine WL.assign rfl rfl ?_
  refine WL.nil ?_
  refine WX.next ?_
  refine W.sub [(4, _), (13, _)] (.cons rfl (.cons rfl .nil)) ?_
  refine W.seq ?_
  refine W.region ?_
  refine WL.move rfl rfl ?_
  refine WL.neI rfl rfl rfl ?_
  refine WL.nil ?_
  refine WX.next ?_
  refine W.sub [(4, _), (54, _)] (.cons rfl (.cons rfl .nil)) ?_
  refine W.ite rfl (fun c4 => ?_) (fun c4 => ?_)
  · refine W.seq ?_
    refine W.region ?_
    refine WL.assign rfl rfl ?_
    refine WL.assign rfl rfl ?_
    refine WL.nil ?_
    refine WX.next ?_
    refine W.sub [(2, _), (3, _)] (.cons rfl (.cons rfl .nil)) ?_
    refine W.ret ?_
    refine WX.thenRet ?_
    refine WX.ret2 rfl rfl rfl ?_
    exact bad _ _ M (texts_bad hall c4)
  · refine W.skip ?_
    refine WX.next ?_
    refine W.seq ?_
    refine W.region ?_
    refine WL.move rfl rfl ?_
    refine WL.assign rfl rfl ?_
    refine WL.assign rfl rfl ?_
    refine WL.nil ?_
    refine WX.next ?_
    refine W.sub [(2, _), (3, _)] (.cons rfl (.cons rfl .nil)) ?_
    refine W.ret ?_
    refine WX.ret2 rfl rfl rfl ?_
    have hg := texts_good hall (Classical.not_not.1 c4)
    rw [hg.1, hg.2]
    exact ⟨B, cB, rfl, M.sel (by first | ((repeat (first | with_reducible exact Sel.refl | with_reducible exact Sel.nil | with_reducible exact Del.here | with_reducible apply Del.there | with_reducible apply Sel.cons | with_reducible apply Sel.drop)); done) | (repeat (first | exact Sel.refl | exact Sel.nil | exact Del.here | apply Del.there | apply Sel.cons | apply Sel.drop)))⟩
end Go.Proofs.Ytinbcidgdbmcjaa
