/-
  Rules, laws and walks, part 4 of 11.
-/
import Derived.Test.YtlminileigfkcaaGreatFarC
import Derived.Laws.StructEq
namespace Go.Proofs.YtlminileigfkcaaGreat
open Go Go.RowKit Go.Lib Bin
def pairE : Enc Pr := ⟨124, 2, fun p => [str p.1, str p.2], fun _ => rfl, (fun a v hv => by
 simp only [List.mem_cons, List.not_mem_nil, or_false] at hv
 rcases hv with rfl | rfl <;> rfl), by decide⟩
theorem Tryz.elem124 : Elem Tryz.prog 53 124 2 32 := by
 obtain ⟨i, hi, h1, h2, h3⟩ := info_parts (P := Tryz.prog) (e := 124) (z := .agg #[str [], str []]) (size := 2) (bytes := 32) (by kernel_rfl)
 exact ⟨Tryz.underlying53, ⟨i, _, hi, h1, h2, h3, rfl⟩, by decide⟩
/-- Keys that are texts, values of one text. -/
def strV : MapE (List UInt8) (List UInt8) := ⟨str, fun v => .agg [str v].toArray, .string, fun _ => trivial, fun _ _ h => str_inj h⟩
theorem bytesLess_eq : ∀ (x y : List UInt8), Op.bytesLess x y = decide (x < y)
 | [], [] => by simp [Op.bytesLess]
 | _ :: _, [] => by simp [Op.bytesLess]
 | [], _ :: _ => by simp [Op.bytesLess]
 | a :: x, b :: y => by
   rw [Op.bytesLess, bytesLess_eq x y]
   simp only [List.cons_lt_cons_iff]
   by_cases h1 : a < b <;> by_cases h2 : a = b <;> by_cases h3 : x < y <;> simp [h1, h2, h3]
section
variable {P : Program} {n : Nat} {ρ : List (Nat × Value)} {w : World} {rest : List Oper} {X : SqV P n}
variable {d : Nat} {ty : TypeId} {pos : String} {aft : Array Edge} {x y : Operand} {t t' : TypeId}
theorem WL.lssS {l m : List UInt8} (hx : ev ρ x = some (str l)) (hy : ev ρ y = some (str m)) (hd : Nat.blt d n = true)
 (kk : X.S rest ((d, .bool (decide (l < m))) :: ρ) w) : X.S (⟨some d, .binOp .lss t x y t', ty, pos, aft, none⟩ :: rest) ρ w :=
 WL.bin hx hy (eqGuard_at_string ..) (by rw [str, str, binOp_string_lss]; simp only [ByteArray.toList_mk, Sem.run_pure]; rw [bytesLess_eq]) hd kk
end
theorem eqPairs (w : World) (a b : Pr) : (Op.equalIn 10000 124 (.agg #[str a.1, str a.2]) (.agg #[str b.1, str b.2])).run Tryz.prog w = .ok (decide (a = b)) w := by
 have h1 : Tryz.prog.underlying 124 = some (.struct (Tryz.prog.fieldsOf 124)) := by kernel_rfl
 have h2 : Tryz.prog.stoodInHeld 124 = false := by kernel_rfl
 rw [show (10000 : Nat) = 9999 + 1 from rfl, run_equalIn_agg w 9999 _ _ _ h1 h2]
 obtain ⟨af, ac⟩ := a
 obtain ⟨bf, bc⟩ := b
 unfold Program.fieldsOf
 rw [Tryz.underlying124]
 have q1 : ∀ (w : World) (a b : List UInt8), (Op.equalIn 9999 9 (str a) (str b)).run Tryz.prog w = .ok (decide (a = b)) w := fun w a b => by
  unfold str
  have := run_equalIn_string (P := Tryz.prog) w 9998 9 (ByteArray.mk a.toArray) (ByteArray.mk b.toArray) Tryz.underlying9
  rw [this, ByteArray.toList_mk, ByteArray.toList_mk]
  have e : (a == b) = decide (a = b) := by
   by_cases h : a = b
   ·rw [decide_eq_true h, h]
    exact beq_self_eq_true b
   ·rw [decide_eq_false h]
    exact beq_eq_false_iff_ne.2 h
  exact congrArg (fun z => Result.ok z w) e
 have z1 : ∀ w, (isAgg 9).run Tryz.prog w = .ok false w := Tryz.isAgg9
 simp [Op.eqFields, part, q1, z1]
 by_cases e1 : af = bf
 ·by_cases e2 : ac = bc
  ·simp [e1, e2]
  ·simp [e1, e2]
 ·simp [e1]
theorem WL.neqP {n : Nat} {ρ : List (Nat × Value)} {w : World} {rest : List Oper} {X : SqV Tryz.prog n} {d : Nat} {ty : TypeId} {pos : String} {aft : Array Edge} {x y : Operand} {t' : TypeId} (a b : Pr)
 (hx : ev ρ x = some (.agg #[str a.1, str a.2])) (hy : ev ρ y = some (.agg #[str b.1, str b.2])) (hd : Nat.blt d n = true) (kk : X.S rest ((d, .bool (decide (a ≠ b))) :: ρ) w) : X.S (⟨some d, .binOp .neq 124 x y t', ty, pos, aft, none⟩ :: rest) ρ w := by
 refine WL.val rfl rfl hd (fun f hf => ?_) kk
 have hg := run_eqGuard_agg (P := Tryz.prog) w .neq 124 x y #[str a.1, str a.2] #[str b.1, str b.2] (by kernel_rfl)
 have he := eqPairs w a b
 have hb := run_neq_struct (P := Tryz.prog) w 124 #[str a.1, str a.2] #[str b.1, str b.2]
 rw [he] at hb
 simp [execOp, hf.eval hx, hf.eval hy, hg, hb]
section
variable (w0 w : World) (L L' : List Asr)
set_option maxRecDepth 10000 in
set_option maxHeartbeats 2000000 in
theorem refLay_ok {A B : Option Addr} {ca cb : Nat} {l : List Pr} {bt : List Cg} (hs : SP l) (hll : l.length ≤ 100000) (hbl : bt.length ≤ 10000) (hkl : ∀ c ∈ bt, c.key.length ≤ 100000 ∧ c.value.length ≤ 100000) (M : Mem w0 w L) (hd : Del (Asr.lst pairE A ca l) L L') (hb : RdLH w0 L' cgE B cb bt) :
 Fn Tryz.prog 29 [.slice A l.length ca, .slice B bt.length cb] w fun v w' => ∃ A' c', v = .slice A' (layL l bt).length c' ∧ Mem w0 w' (Asr.lst pairE A' c' (layL l bt) :: L') := by
 have M1 := M.del hd
 clear M
 have M := M1
 refine Fn.enter Tryz.func29 rfl Tryz.ntmps29 rfl (W.sub [(0, _), (1, _)] (.cons rfl (.cons rfl .nil)) (W.seq (W.region (WL.assign rfl rfl (WL.nil (WX.next (W.sub [(0, _), (1, _)] (.cons rfl (.cons rfl .nil)) (W.seq (W.seq (W.region (WL.assign rfl rfl (WL.nil (WX.next (W.sub [(0, _), (1, _), (5, _)] (.cons rfl (.cons rfl (.cons rfl .nil))) (W.block ?_)))))))))))))))
 refine W.loop (ι := Nat × Option Addr × Nat × List Pr) (fun z => [(0, .slice z.2.1 z.2.2.2.length z.2.2.1), (1, .slice B bt.length cb), (5, .int .i64 (z.1 : Int))]) (fun zz w => Mem w0 w ((fun z => Asr.lst pairE z.2.1 z.2.2.1 z.2.2.2 :: L') zz) ∧ (fun z => z.1 ≤ bt.length ∧ z.2.2.2 = layL l (bt.take z.1) ∧ SP z.2.2.2 ∧ z.2.2.2.length ≤ 100000 + z.1) zz) (fun z => bt.length - z.1) ((0, A, ca, l)) envSub.sf ⟨M.sel Sel.a, ⟨Nat.zero_le _, rfl, hs, by dsimp only; omega⟩⟩ ?_
 clear M; rintro (⟨i, A1, c1', m⟩) w ⟨M, ⟨hi, hm, hsm, hml⟩⟩; dsimp only at M hi hm hsm hml ⊢
 refine W.sub [(0, _), (1, _), (5, _)] (.cons rfl (.cons rfl (.cons rfl .nil))) (W.seq (W.seq (W.region (WL.move rfl rfl (WL.move rfl rfl (WL.len Tryz.underlying22 rfl rfl (WL.lss rfl rfl rfl (WL.nil (WX.next (W.sub [(0, _), (1, _), (5, _), (12, _)] (.cons rfl (.cons rfl (.cons rfl (.cons rfl .nil)))) (W.ite rfl (fun c0 => ?_) (fun c0 => ?_))))))))))))
 ·have hil : i < bt.length := by omega
  refine W.skip (WX.next (W.seq (W.block (W.seq (W.region (WL.move rfl rfl (WL.move rfl rfl (WL.idxA Tryz.underlying22 Tryz.sizeOf63 rfl rfl (RdL.isSome (E := cgE) (by first | with_reducible assumption | with_reducible exact RdL.mem (by with_reducible assumption) M | exact M.rdL Has.a | exact RdLH.at (by assumption) (M.sel Sel.a) | exact RdL.nil _ _ _) (by omega)) (by omega) (by omega) (by first | exact rfl | exact (Int.toNat_of_nonneg (by omega)).symm) rfl ?_))))))))
  refine WL.loadL (E := cgE) (cs := [_, _, _]) Tryz.isAgg63 Tryz.sizeOf63 rfl (hb.at (M.sel Sel.a)) rfl (by omega) rfl rfl ?_
  refine WL.alloc Tryz.zeroValue63 M rfl ?_
  intro g4_4 w M
  try simp only [Value.cells] at M
  try simp only [List.toList_toArray] at M
  refine WL.storeWA Tryz.sizeOf63 rfl rfl (by repeat (first | exact oneNil | refine oneCons rfl ?_)) rfl rfl M Upd.a ?_
  intro w M
  refine WL.nil (WX.next (W.sub [(0, _), (1, _), (5, _), (6, _)] (.cons rfl (.cons rfl (.cons rfl (.cons rfl .nil)))) (W.seq ?_)))
  obtain ⟨c, hc⟩ : ∃ c, c = el bt i := ⟨_, rfl⟩
  have hck := hkl _ (el_mem hil)
  rw [← hc] at M hck
  have M2 := M.nilOwn 124 2
  replace M := M2
  refine W.region (WL.assign rfl rfl (WL.nil (WX.next (W.sub [(0, _), (1, _), (5, _), (6, _), (7, _)] (.cons rfl (.cons rfl (.cons rfl (.cons rfl (.cons rfl .nil))))) (W.seq (W.region (WL.assign rfl rfl (WL.nil (WX.next (W.sub [(0, _), (1, _), (5, _), (6, _), (7, _), (8, _)] (.cons rfl (.cons rfl (.cons rfl (.cons rfl (.cons rfl (.cons rfl .nil)))))) (W.joint (fun (z : Nat × Option Addr × Nat) => [(0, .slice A1 m.length c1'), (1, .slice B bt.length cb), (5, .int .i64 (i : Int)), (6, .pointer (some ⟨g4_4, 0, none⟩)), (7, .slice z.2.1 (m.take z.1).length z.2.2), (8, .int .i64 (z.1 : Int))]) (fun zj w => Mem w0 w ((fun z => Asr.lst pairE z.2.1 z.2.2 (m.take z.1) :: Asr.row g4_4 63 [str c.key, str c.value, .bool c.gone] :: Asr.lst pairE A1 c1' m :: L') zj) ∧ (fun z => z.1 ≤ m.length ∧ (∀ j, j < z.1 → (el m j).1 < c.key) ∧ (z.1 < m.length → ¬ (el m z.1).1 < c.key)) zj) ?_ ?_)))))))))))
  ·refine W.block (W.loop (ι := Nat × Option Addr × Nat) (fun z => [(0, .slice A1 m.length c1'), (1, .slice B bt.length cb), (5, .int .i64 (i : Int)), (6, .pointer (some ⟨g4_4, 0, none⟩)), (7, .slice z.2.1 (m.take z.1).length z.2.2), (8, .int .i64 (z.1 : Int))]) (fun zz w => Mem w0 w ((fun z => Asr.lst pairE z.2.1 z.2.2 (m.take z.1) :: Asr.row g4_4 63 [str c.key, str c.value, .bool c.gone] :: Asr.lst pairE A1 c1' m :: L') zz) ∧ (fun z => z.1 ≤ m.length ∧ ∀ j, j < z.1 → (el m j).1 < c.key) zz) (fun z => m.length - z.1) ((0, none, 0)) envSub.sf ⟨M.sel Sel.a, ⟨Nat.zero_le _, fun j hj => absurd hj (Nat.not_lt_zero _)⟩⟩ ?_)
   clear M; rintro (⟨k, A2, c2'⟩) w ⟨M, ⟨hk, hlt⟩⟩; dsimp only at M hk hlt ⊢
   refine W.sub [(0, _), (1, _), (5, _), (6, _), (7, _), (8, _)] (.cons rfl (.cons rfl (.cons rfl (.cons rfl (.cons rfl (.cons rfl .nil)))))) (W.seq (W.seq (W.drawM ([Asr.row g4_4 63 [str c.key, str c.value, .bool c.gone], Asr.lst pairE A1 c1' m]) (by kernel_rfl) (fun j => [9, 11].contains j) M Sel.a ?_)))
   clear M; intro M
   apply DG.pure_ [0, 1, 2, 3] 10 rfl (by kernel_rfl) (by kernel_rfl)
   ·intro w
    refine WL.move rfl rfl (WL.move rfl rfl (WL.len Tryz.underlying53 rfl rfl (WL.lss rfl rfl rfl ?_)))
    exact Chain.end_ rfl
   refine DG.knowP (t := 22) rfl (fun c1 => ?_) (fun c1 => ?_)
   ·apply DG.pure_ [4, 5, 6, 7, 8, 10] 4 rfl (by kernel_rfl) (by kernel_rfl)
    ·intro w
     refine WL.move rfl rfl (WL.on rfl rfl (WL.move rfl rfl (WL.on rfl rfl (WL.move rfl rfl (WL.on rfl rfl (WL.idxA Tryz.underlying53 Tryz.sizeOf124 rfl rfl (RdL.isSome (E := pairE) (by first | with_reducible assumption | with_reducible exact RdL.mem (by with_reducible assumption) M | exact M.rdL Has.a | exact RdLH.at (by assumption) (M.sel Sel.a) | exact RdL.nil _ _ _) (by omega)) (by omega) (by omega) (by first | exact rfl | exact (Int.toNat_of_nonneg (by omega)).symm) rfl ?_))))))
     refine WL.on rfl rfl (WL.fieldA (off := 0) Tryz.underlying124 rfl rfl Tryz.sizeOf9 rfl rfl rfl ?_)
     refine WL.on rfl rfl (WL.fieldR (off := 0) Tryz.underlying63 rfl rfl Tryz.sizeOf9 rfl rfl rfl ?_)
     exact Chain.end_ rfl
    apply DG.take [9, 11, 12, 13] 0 rfl (by kernel_rfl) (by kernel_rfl) (M.sel Sel.a)
    ·intro w M
     refine WL.on rfl rfl (WL.loadE (E := pairE) Tryz.isAgg9 rfl (by first | with_reducible assumption | with_reducible exact RdL.mem (by with_reducible assumption) M | exact M.rdL Has.a | exact RdLH.at (by assumption) (M.sel Sel.a) | exact RdL.nil _ _ _) (by omega) rfl rfl ?_)
     refine WL.on rfl rfl (WL.loadR Tryz.isAgg9 rfl M Has.a rfl rfl (WL.on rfl rfl (WL.lssS rfl rfl rfl (WL.pickT rfl rfl rfl ?_))))
     exact Chain.end_ rfl
    refine DG.end_ (by kernel_rfl) ?_
    refine WX.next (W.sub [(0, _), (1, _), (5, _), (6, _), (7, _), (8, _), (32, _)] (.cons rfl (.cons rfl (.cons rfl (.cons rfl (.cons rfl (.cons rfl (.cons rfl .nil))))))) (W.ite rfl (fun c2 => ?_) (fun c2 => ?_)))
    ·have hkm : k < m.length := by omega
     refine W.skip (WX.next (W.block (W.seq (W.region (WL.move rfl rfl (WL.move rfl rfl (WL.move rfl rfl (WL.idxA Tryz.underlying53 Tryz.sizeOf124 rfl rfl (RdL.isSome (E := pairE) (by first | with_reducible assumption | with_reducible exact RdL.mem (by with_reducible assumption) M | exact M.rdL Has.a | exact RdLH.at (by assumption) (M.sel Sel.a) | exact RdL.nil _ _ _) (by omega)) (by omega) (by omega) (by first | exact rfl | exact (Int.toNat_of_nonneg (by omega)).symm) rfl ?_))))))))
     refine WL.loadL (E := pairE) (cs := [_, _]) Tryz.isAgg124 Tryz.sizeOf124 rfl (by first | with_reducible assumption | with_reducible exact RdL.mem (by with_reducible assumption) M | exact M.rdL Has.a | exact RdLH.at (by assumption) (M.sel Sel.a) | exact RdL.nil _ _ _) rfl (by omega) rfl rfl ?_
     refine WL.buildL (E := pairE) (l := [el m k]) Tryz.elem124 M rfl rfl rfl rfl rfl rfl ?_
     intro g8_5 w M
     refine WL.appendL (E := pairE) Tryz.elem124 rfl rfl M Del.a (by first | with_reducible assumption | with_reducible exact RdL.mem (by with_reducible assumption) M | exact M.rdL Has.a | exact RdLH.at (by assumption) (M.sel Sel.a) | exact RdL.nil _ _ _) rfl rfl (by first | omega | (simp; done) | (simp; omega)) (by first | (simp only [maxLen]; omega) | (simp [maxLen]; done) | (simp [maxLen]; omega)) rfl ?_
     intro A8_6 cap8_6 w M
     refine WL.assign rfl rfl (WL.nil (WX.next (W.sub [(0, _), (1, _), (5, _), (6, _), (7, _), (8, _)] (.cons rfl (.cons rfl (.cons rfl (.cons rfl (.cons rfl (.cons rfl .nil)))))) (W.region (WL.move rfl rfl (WL.add rfl rfl (by first | exact wI64 (by omega) | rfl) rfl ?_))))))
     refine WL.assign rfl rfl (WL.nil (WX.blockNormal ?_))
     skip
     have q : m.take k ++ [el m k] = m.take (k + 1) := by
      rw [List.take_succ_eq_append_getElem hkm]
      congr 2
      simp [el, hkm]
     rw [q] at M ⊢
     have q2 : ∀ j, j < k + 1 → (el m j).1 < c.key := by
      intro j hj
      rcases Nat.lt_or_ge j k with h | h
      ·exact hlt j h
      ·obtain rfl : j = k := by omega
       exact c2
     refine WX.round ((k + 1, A8_6, cap8_6)) envSub.sf ⟨M.sel Sel.a, ⟨by dsimp only; omega, q2⟩⟩ (by first | omega | (dsimp only; omega))
    ·refine W.exit (WX.thenExit (WX.thenExit (WX.blockHere (WX.join ((k, A2, c2')) envSub.sf ⟨M.sel Sel.a, ⟨hk, hlt, fun _ => c2⟩⟩))))
   ·apply DG.pure_ [4, 5, 6, 7, 8, 10] 4 rfl (by kernel_rfl) (by kernel_rfl)
    ·intro w
     refine WL.move rfl rfl (WL.off rfl rfl rfl rfl (WL.off rfl rfl rfl rfl (WL.off rfl rfl rfl rfl (WL.off rfl rfl rfl rfl (WL.off rfl rfl rfl rfl ?_)))))
     exact Chain.end_ rfl
    apply DG.take [9, 11, 12, 13] 0 rfl (by kernel_rfl) (by kernel_rfl) (M.sel Sel.a)
    ·intro w M
     refine WL.off rfl rfl rfl rfl (WL.off rfl rfl rfl rfl (WL.off rfl rfl rfl rfl (WL.pickF rfl rfl rfl ?_)))
     exact Chain.end_ rfl
    refine DG.end_ (by kernel_rfl) ?_
    refine WX.next (W.sub [(0, _), (1, _), (5, _), (6, _), (7, _), (8, _), (32, _)] (.cons rfl (.cons rfl (.cons rfl (.cons rfl (.cons rfl (.cons rfl (.cons rfl .nil))))))) (W.condF rfl (W.exit (WX.thenExit (WX.thenExit (WX.blockHere ?_))))))
    refine WX.join ((k, A2, c2')) envSub.sf ⟨M.sel Sel.a, ⟨hk, hlt, fun h => absurd h (by dsimp only; omega)⟩⟩
  clear M; rintro (⟨k, A2, c2'⟩) w ⟨M, ⟨hk, hlt, hge⟩⟩; dsimp only at M hk hlt hge ⊢
  refine W.sub [(0, _), (1, _), (5, _), (6, _), (7, _), (8, _)] (.cons rfl (.cons rfl (.cons rfl (.cons rfl (.cons rfl (.cons rfl .nil)))))) ?_
  have hlay := lay1_at hk hlt hge
  have hlm : (m.take k).length = k := by rw [List.length_take]; omega
  refine W.joint (fun (z : Option Addr × Nat × List Pr) => [(0, .slice A1 m.length c1'), (1, .slice B bt.length cb), (5, .int .i64 (i : Int)), (6, .pointer (some ⟨g4_4, 0, none⟩)), (7, .slice z.1 z.2.2.length z.2.1), (8, .int .i64 (k : Int))]) (fun zj w => Mem w0 w ((fun z => Asr.lst pairE z.1 z.2.1 z.2.2 :: Asr.row g4_4 63 [str c.key, str c.value, .bool c.gone] :: Asr.lst pairE A1 c1' m :: L') zj) ∧ (fun z => z.2.2 = m.take k ++ insP c) zj) ?_ ?_
  ·refine W.seq (W.region (WL.fieldR (off := 2) Tryz.underlying63 rfl rfl Tryz.sizeOf4 rfl rfl rfl ?_))
   refine WL.loadR Tryz.isAgg4 rfl M Has.a rfl rfl (WL.not rfl rfl (WL.nil (WX.next (W.sub [(0, _), (1, _), (5, _), (6, _), (7, _), (8, _), (44, _)] (.cons rfl (.cons rfl (.cons rfl (.cons rfl (.cons rfl (.cons rfl (.cons rfl .nil))))))) (W.cond rfl (fun c3 => ?_) (fun c3 => ?_))))))
   ·(try simp only [Bool.not_eq_true'] at c3); (try simp only [Bool.not_eq_false'] at c3); (try simp only [decide_eq_true_eq] at c3); (try simp only [decide_eq_false_iff_not] at c3)
    have hgn : ¬ c.gone = true := by simpa using c3
    have hins : insP c = [(c.key, c.value)] := by unfold insP; rw [if_neg hgn]
    refine W.region (WL.move rfl rfl (WL.fieldR (off := 0) Tryz.underlying63 rfl rfl Tryz.sizeOf9 rfl rfl rfl ?_))
    refine WL.loadR Tryz.isAgg9 rfl M Has.a rfl rfl (WL.fieldR (off := 1) Tryz.underlying63 rfl rfl Tryz.sizeOf9 rfl rfl rfl ?_)
    refine WL.loadR Tryz.isAgg9 rfl M Has.a rfl rfl (WL.buildP (places := #[(0, 1), (1, 1)]) Tryz.underlying124 Tryz.zeroValue124 (fun _ => by simp [Tryz.sizeOf9, Tryz.sizeOf9]) rfl (by repeat (first | exact Puts.nil | exact SetAt.zero | apply SetAt.succ | apply Puts.cons rfl rfl)) rfl ?_)
    refine WL.buildL (E := pairE) (l := [((c.key, c.value) : Pr)]) Tryz.elem124 M rfl rfl rfl rfl rfl rfl ?_
    intro g11_6 w M
    refine WL.appendL (E := pairE) Tryz.elem124 rfl rfl M Del.a (by first | with_reducible assumption | with_reducible exact RdL.mem (by with_reducible assumption) M | exact M.rdL Has.a | exact RdLH.at (by assumption) (M.sel Sel.a) | exact RdL.nil _ _ _) rfl rfl (by first | omega | (simp; done) | (simp; omega)) (by first | (simp only [maxLen]; omega) | (simp [maxLen]; done) | (simp [maxLen]; omega)) rfl ?_
    intro A11_7 cap11_7 w M
    refine WL.assign rfl rfl (WL.nil (WX.join ((A11_7, cap11_7, m.take k ++ [(c.key, c.value)])) envSub.sf ⟨M.sel Sel.a, (by rw [hins])⟩))
   ·(try simp only [Bool.not_eq_true'] at c3); (try simp only [Bool.not_eq_false'] at c3); (try simp only [decide_eq_true_eq] at c3); (try simp only [decide_eq_false_iff_not] at c3)
    refine W.skip ?_
    have hgn : c.gone = true := by simpa using c3
    have hins : insP c = [] := by unfold insP; rw [if_pos hgn]
    refine WX.join ((A2, c2', m.take k)) envSub.sf ⟨M.sel Sel.a, (by dsimp only; rw [hins, List.append_nil])⟩
  clear M; rintro (⟨A3, c3', m3⟩) w ⟨M, hm3⟩; dsimp only at M hm3 ⊢
  refine W.sub [(0, _), (1, _), (5, _), (6, _), (7, _), (8, _)] (.cons rfl (.cons rfl (.cons rfl (.cons rfl (.cons rfl (.cons rfl .nil)))))) (W.joint (fun (z : Nat) => [(0, .slice A1 m.length c1'), (1, .slice B bt.length cb), (5, .int .i64 (i : Int)), (7, .slice A3 m3.length c3'), (8, .int .i64 (z : Int))]) (fun zj w => Mem w0 w ((fun z => Asr.lst pairE A3 c3' m3 :: Asr.lst pairE A1 c1' m :: L') zj) ∧ (fun z => z = (if k < m.length ∧ (el m k).1 = c.key then k + 1 else k)) zj) ?_ ?_)
  ·refine W.seq (W.drawM ([Asr.row g4_4 63 [str c.key, str c.value, .bool c.gone], Asr.lst pairE A1 c1' m]) (by kernel_rfl) (fun j => [9, 11].contains j) M Sel.a ?_)
   clear M; intro M
   apply DG.pure_ [0, 1, 2, 3] 10 rfl (by kernel_rfl) (by kernel_rfl)
   ·intro w
    refine WL.move rfl rfl (WL.move rfl rfl (WL.len Tryz.underlying53 rfl rfl (WL.lss rfl rfl rfl ?_)))
    exact Chain.end_ rfl
   refine DG.knowP (t := 56) rfl (fun c4 => ?_) (fun c4 => ?_)
   ·apply DG.pure_ [4, 5, 6, 7, 8, 10] 4 rfl (by kernel_rfl) (by kernel_rfl)
    ·intro w
     refine WL.move rfl rfl (WL.on rfl rfl (WL.move rfl rfl (WL.on rfl rfl (WL.move rfl rfl (WL.on rfl rfl (WL.idxA Tryz.underlying53 Tryz.sizeOf124 rfl rfl (RdL.isSome (E := pairE) (by first | with_reducible assumption | with_reducible exact RdL.mem (by with_reducible assumption) M | exact M.rdL Has.a | exact RdLH.at (by assumption) (M.sel Sel.a) | exact RdL.nil _ _ _) (by omega)) (by omega) (by omega) (by first | exact rfl | exact (Int.toNat_of_nonneg (by omega)).symm) rfl ?_))))))
     refine WL.on rfl rfl (WL.fieldA (off := 0) Tryz.underlying124 rfl rfl Tryz.sizeOf9 rfl rfl rfl ?_)
     refine WL.on rfl rfl (WL.fieldR (off := 0) Tryz.underlying63 rfl rfl Tryz.sizeOf9 rfl rfl rfl ?_)
     exact Chain.end_ rfl
    apply DG.take [9, 11, 12, 13] 0 rfl (by kernel_rfl) (by kernel_rfl) (M.sel Sel.a)
    ·intro w M
     refine WL.on rfl rfl (WL.loadE (E := pairE) Tryz.isAgg9 rfl (by first | with_reducible assumption | with_reducible exact RdL.mem (by with_reducible assumption) M | exact M.rdL Has.a | exact RdLH.at (by assumption) (M.sel Sel.a) | exact RdL.nil _ _ _) (by omega) rfl rfl ?_)
     refine WL.on rfl rfl (WL.loadR Tryz.isAgg9 rfl M Has.a rfl rfl (WL.on rfl rfl (WL.eqS rfl rfl rfl (WL.pickT rfl rfl rfl ?_))))
     exact Chain.end_ rfl
    refine DG.end_ (by kernel_rfl) ?_
    refine WX.next (W.sub [(0, _), (1, _), (5, _), (7, _), (8, _), (66, _)] (.cons rfl (.cons rfl (.cons rfl (.cons rfl (.cons rfl (.cons rfl .nil)))))) (W.ite rfl (fun c5 => ?_) (fun c5 => ?_)))
    ·refine W.region (WL.move rfl rfl (WL.add rfl rfl (by first | exact wI64 (by omega) | rfl) rfl ?_))
     refine WL.assign rfl rfl (WL.nil ?_)
     have hkm : k < m.length := by omega
     refine WX.join (k + 1) envSub.sf ⟨M.sel Sel.a, (by rw [if_pos ⟨hkm, c5⟩])⟩
    ·refine W.skip (WX.join (k) envSub.sf ⟨M.sel Sel.a, (by rw [if_neg (fun h => c5 h.2)])⟩)
   ·apply DG.pure_ [4, 5, 6, 7, 8, 10] 4 rfl (by kernel_rfl) (by kernel_rfl)
    ·intro w
     refine WL.move rfl rfl (WL.off rfl rfl rfl rfl (WL.off rfl rfl rfl rfl (WL.off rfl rfl rfl rfl (WL.off rfl rfl rfl rfl (WL.off rfl rfl rfl rfl ?_)))))
     exact Chain.end_ rfl
    apply DG.take [9, 11, 12, 13] 0 rfl (by kernel_rfl) (by kernel_rfl) (M.sel Sel.a)
    ·intro w M
     refine WL.off rfl rfl rfl rfl (WL.off rfl rfl rfl rfl (WL.off rfl rfl rfl rfl (WL.pickF rfl rfl rfl ?_)))
     exact Chain.end_ rfl
    refine DG.end_ (by kernel_rfl) ?_
    refine WX.next (W.sub [(0, _), (1, _), (5, _), (7, _), (8, _), (66, _)] (.cons rfl (.cons rfl (.cons rfl (.cons rfl (.cons rfl (.cons rfl .nil)))))) (W.condF rfl (W.skip ?_)))
    refine WX.join (k) envSub.sf ⟨M.sel Sel.a, (by rw [if_neg (fun h => by have := h.1; omega)])⟩
  clear M; rintro (k2) w ⟨M, hk2⟩; dsimp only at M hk2 ⊢
  refine W.sub [(0, _), (1, _), (5, _), (7, _), (8, _)] (.cons rfl (.cons rfl (.cons rfl (.cons rfl (.cons rfl .nil))))) (W.seq ?_)
  have hil2 : (insP c).length ≤ 1 := by unfold insP; split <;> simp
  have hm3l : m3.length = k + (insP c).length := by rw [hm3, List.length_append, hlm]
  have hk2l : k2 ≤ m.length ∧ k ≤ k2 := by rw [hk2]; split <;> omega
  rw [← hk2, ← hm3] at hlay
  refine W.region (WL.move rfl rfl (WL.move rfl rfl (WL.move rfl rfl ?_)))
  refine WL.cutL (m' := (m.drop k2).length) Tryz.underlying53 Tryz.sizeOf124 rfl rfl (by omega) (by omega) (by first | exact rfl | exact (Int.toNat_of_nonneg (by omega)).symm) (by first | (rw [sub_length (by omega) (by omega)]) | (simp only [List.length_drop] <;> omega) | (simp only [List.length_take] <;> omega) | (simp only [List.length_take, List.length_drop] <;> omega) | (simp; done) | (simp; omega)) rfl ?_
  refine WL.appendL (E := pairE) Tryz.elem124 rfl rfl M Del.a (RdL.suf (M.rdL (A := A1) (cap := c1') (l := m) Has.a) hk2l.1) rfl rfl (by simp only [List.length_append, List.length_drop]; omega) (by simp only [maxLen, List.length_append, List.length_drop]; omega) rfl ?_
  intro A14_4 cap14_4 w M
  refine WL.assign rfl rfl (WL.nil (WX.next (W.sub [(1, _), (5, _), (7, _)] (.cons rfl (.cons rfl (.cons rfl .nil))) (W.region (WL.move rfl rfl (WL.assign rfl rfl (WL.nil (WX.blockNormal (WX.next (W.sub [(0, _), (1, _), (5, _)] (.cons rfl (.cons rfl (.cons rfl .nil))) (W.region (WL.move rfl rfl (WL.add rfl rfl (by first | exact wI64 (by omega) | rfl) rfl ?_)))))))))))))
  refine WL.assign rfl rfl (WL.nil ?_)
  skip
  have htk : bt.take (i + 1) = bt.take i ++ [c] := by
   rw [List.take_succ_eq_append_getElem hil, hc]
   congr 2
   simp [el, hil]
  have q1 : lay1 m c = layL l (bt.take (i + 1)) := by rw [htk, layL_snoc, hm]
  have q2 := lay1_SP (c := c) hsm
  have q3 := lay1_len (c := c) hsm
  rw [← hlay] at M ⊢
  refine WX.round ((i + 1, A14_4, cap14_4, lay1 m c)) envSub.sf ⟨M.sel Sel.a, ⟨by dsimp only; omega, q1, q2, by dsimp only; omega⟩⟩ (by first | omega | (dsimp only; omega))
 ·refine W.exit (WX.thenExit (WX.thenExit (WX.blockHere (WX.next (W.seq (W.region (WL.move rfl rfl (WL.assign rfl rfl (WL.nil (WX.next (W.sub [(4, _)] (.cons rfl .nil) (W.ret (WX.ret1 rfl rfl ?_)))))))))))))
  obtain rfl : i = bt.length := by omega
  rw [List.take_length] at hm
  rw [hm] at M ⊢
  exact ⟨A1, c1', rfl, M.sel Sel.a⟩
theorem refSame_ok {A B : Option Addr} {ca cb : Nat} {l m : List Pr} {w0 : World} (hl9 : l.length ≤ 1000000) (h1 : RdL w0 pairE A ca l) (h2 : RdL w0 pairE B cb m) :
 Fn Tryz.prog 39 [.slice A l.length ca, .slice B m.length cb] w0 fun v w' => v = .bool (decide (l = m)) ∧ Mem w0 w' [] := by
 have M := Mem.refl w0
 obtain ⟨w, hw⟩ : ∃ w, w = w0 := ⟨w0, rfl⟩
 refine Fn.enter Tryz.func39 rfl Tryz.ntmps39 rfl (W.sub [(0, _), (1, _)] (.cons rfl (.cons rfl .nil)) (W.seq (W.region (WL.assign rfl rfl (WL.nil (WX.next (W.sub [(0, _), (1, _)] (.cons rfl (.cons rfl .nil)) (W.seq (W.seq (W.region (WL.move rfl rfl (WL.len Tryz.underlying53 rfl rfl (WL.move rfl rfl (WL.len Tryz.underlying53 rfl rfl (WL.neI rfl rfl rfl (WL.nil (WX.next (W.sub [(0, _), (1, _), (10, _)] (.cons rfl (.cons rfl (.cons rfl .nil))) (W.ite rfl (fun c0 => ?_) (fun c0 => ?_))))))))))))))))))))
 ·refine W.seq (W.region (WL.assign rfl rfl (WL.nil (WX.next (W.sub [(4, _)] (.cons rfl .nil) (W.ret (WX.thenRet (WX.ret1 rfl rfl ?_))))))))
  exact ⟨by rw [decide_eq_false (fun h => c0 (by rw [h]))], M⟩
 ·refine W.skip (WX.next (W.seq (W.seq (W.region (WL.assign rfl rfl (WL.nil (WX.next (W.sub [(0, _), (1, _), (5, _)] (.cons rfl (.cons rfl (.cons rfl .nil))) (W.block (W.loop (ι := Nat) (fun i => [(0, .slice A l.length ca), (1, .slice B m.length cb), (5, .int .i64 (i : Int))]) (fun zz w => Mem w0 w ((fun _ => []) zz) ∧ (fun i => i ≤ l.length ∧ ∀ j, j < i → el l j = el m j) zz) (fun i => l.length - i) (0) envSub.sf ⟨M.sel Sel.a, ⟨Nat.zero_le _, fun j hj => absurd hj (Nat.not_lt_zero _)⟩⟩ ?_))))))))))
  clear M; rintro (i) w ⟨M, ⟨hi, hs⟩⟩; dsimp only at M hi hs ⊢
  refine W.sub [(0, _), (1, _), (5, _)] (.cons rfl (.cons rfl (.cons rfl .nil))) (W.seq (W.seq (W.region (WL.move rfl rfl (WL.move rfl rfl (WL.len Tryz.underlying53 rfl rfl (WL.lss rfl rfl rfl (WL.nil (WX.next (W.sub [(0, _), (1, _), (5, _), (14, _)] (.cons rfl (.cons rfl (.cons rfl (.cons rfl .nil)))) (W.ite rfl (fun c1 => ?_) (fun c1 => ?_))))))))))))
  ·have hil : i < l.length := by omega
   have hlm : l.length = m.length := by omega
   refine W.skip (WX.next (W.seq (W.block (W.seq (W.drawM ([]) (by kernel_rfl) (fun j => [3, 7].contains j) M Sel.a ?_)))))
   clear M; intro M
   apply DG.pure_ [0, 1, 2, 4, 5, 6] 3 rfl (by kernel_rfl) (by kernel_rfl)
   ·intro w
    refine WL.move rfl rfl (WL.move rfl rfl (WL.idxA Tryz.underlying53 Tryz.sizeOf124 rfl rfl (RdL.isSome (E := pairE) (h1.mem M) (by omega)) (by omega) (by omega) (by first | exact rfl | exact (Int.toNat_of_nonneg (by omega)).symm) rfl ?_))
    refine WL.move rfl rfl (WL.move rfl rfl (WL.idxA Tryz.underlying53 Tryz.sizeOf124 rfl rfl (RdL.isSome (E := pairE) (h2.mem M) (by omega)) (by omega) (by omega) (by first | exact rfl | exact (Int.toNat_of_nonneg (by omega)).symm) rfl ?_))
    exact Chain.end_ rfl
   apply DG.take [3, 7, 8] 0 rfl (by kernel_rfl) (by kernel_rfl) (M.sel Sel.a)
   ·intro w M
    refine WL.loadL (E := pairE) (cs := [_, _]) Tryz.isAgg124 Tryz.sizeOf124 rfl (h1.mem M) rfl (by omega) rfl rfl ?_
    refine WL.loadL (E := pairE) (cs := [_, _]) Tryz.isAgg124 Tryz.sizeOf124 rfl (h2.mem M) rfl (by omega) rfl rfl ?_
    refine WL.neqP (el l i) (el m i) rfl rfl rfl ?_
    exact Chain.end_ rfl
   refine DG.end_ (by kernel_rfl) ?_
   refine WX.next (W.sub [(0, _), (1, _), (5, _), (25, _)] (.cons rfl (.cons rfl (.cons rfl (.cons rfl .nil)))) (W.ite rfl (fun c2 => ?_) (fun c2 => ?_)))
   ·refine W.seq (W.region (WL.assign rfl rfl (WL.nil (WX.next (W.sub [(4, _)] (.cons rfl .nil) (W.ret (WX.blockRet (WX.thenRet (WX.thenRet (WX.blockRet (WX.thenRet (WX.ret1 rfl rfl ?_))))))))))))
    exact ⟨by rw [decide_eq_false (fun h => c2 (by rw [h]))], M.sel Sel.a⟩
   ·refine W.skip (WX.blockNormal (WX.next (W.region (WL.move rfl rfl (WL.add rfl rfl (by first | exact wI64 (by omega) | rfl) rfl ?_)))))
    refine WL.assign rfl rfl (WL.nil ?_)
    skip
    have q0 : el l i = el m i := Classical.byContradiction c2
    have q : ∀ j, j < i + 1 → el l j = el m j := by
     intro j hj
     rcases Nat.lt_or_ge j i with h | h
     ·exact hs j h
     ·obtain rfl : j = i := by omega
      exact q0
    refine WX.round (i + 1) envSub.sf ⟨M.sel Sel.a, ⟨by omega, q⟩⟩ (by first | omega | (dsimp only; omega))
  ·refine W.exit (WX.thenExit (WX.thenExit (WX.blockHere (WX.next (W.seq (W.region (WL.assign rfl rfl (WL.nil (WX.next (W.sub [(4, _)] (.cons rfl .nil) (W.ret (WX.ret1 rfl rfl ?_))))))))))))
   obtain rfl : i = l.length := by omega
   have hlm : l.length = m.length := by omega
   have he : l = m := by
    apply List.ext_getElem? 
    intro j
    rcases Nat.lt_or_ge j l.length with h | h
    ·have := hs j h
     rw [List.getElem?_eq_getElem h, List.getElem?_eq_getElem (by omega)]
     simpa [el, h, show j < m.length by omega] using this
    ·rw [List.getElem?_eq_none h, List.getElem?_eq_none (by omega)]
   exact ⟨by rw [decide_eq_true he], M.sel Sel.a⟩
set_option maxRecDepth 10000 in
theorem stLay_ok {g gm : Nat} {bt : List Cg} (hbl : bt.length ≤ 1000000) {ro : List Value} {ms : List Pr} {B : Option Addr} {cb : Nat} (hr : Has (Asr.row g 81 ro) L') (h1 : ro[1]? = some (.map (some gm))) (M : Mem w0 w L) (hd : Del (Asr.mp strV gm ms) L L') (hb : RdLH w0 L' cgE B cb bt) :
 Fn Tryz.prog 26 [.pointer (some ⟨g, 0, none⟩), .slice B bt.length cb] w fun _ w' => Mem w0 w' (Asr.mp strV gm (mapL ms bt) :: L') := by
 have M1 := M.del hd
 clear M
 have M := M1
 refine Fn.enter Tryz.func26 rfl Tryz.ntmps26 rfl (W.sub [(0, _), (1, _)] (.cons rfl (.cons rfl .nil)) (W.seq (W.region (WL.move rfl rfl (WL.len Tryz.underlying22 rfl rfl (WL.move rfl rfl (WL.nil (WX.next (W.sub [(0, _), (6, _), (7, _), (8, _)] (.cons rfl (.cons rfl (.cons rfl (.cons rfl .nil)))) (W.block (W.loop (ι := Nat) (fun i => [(0, .pointer (some ⟨g, 0, none⟩)), (6, .slice B bt.length cb), (7, .int .i64 (bt.length : Int)), (8, .int .i64 (i : Int))]) (fun zz w => Mem w0 w ((fun i => Asr.mp strV gm (mapL ms (bt.take i)) :: L') zz) ∧ (fun i => i ≤ bt.length) zz) (fun i => bt.length - i) (0) envSub.sf ⟨M.sel Sel.a, Nat.zero_le _⟩ ?_)))))))))))
 clear M; rintro (i) w ⟨M, hi⟩; dsimp only at M hi ⊢
 refine W.sub [(0, _), (6, _), (7, _), (8, _)] (.cons rfl (.cons rfl (.cons rfl (.cons rfl .nil)))) (W.seq (W.region (WL.lss rfl rfl rfl (WL.nil (WX.next (W.sub [(0, _), (6, _), (7, _), (8, _), (9, _)] (.cons rfl (.cons rfl (.cons rfl (.cons rfl (.cons rfl .nil))))) (W.seq (W.ite rfl (fun c0 => ?_) (fun c0 => ?_)))))))))
 ·have hil : i < bt.length := by omega
  refine W.skip (WX.next (W.seq (W.block (W.seq (W.region (WL.idxA Tryz.underlying22 Tryz.sizeOf63 rfl rfl (RdL.isSome (E := cgE) (by first | with_reducible assumption | with_reducible exact RdL.mem (by with_reducible assumption) M | exact M.rdL Has.a | exact RdLH.at (by assumption) (M.sel Sel.a) | exact RdL.nil _ _ _) (by omega)) (by omega) (by omega) (by first | exact rfl | exact (Int.toNat_of_nonneg (by omega)).symm) rfl ?_))))))
  refine WL.loadL (E := cgE) (cs := [_, _, _]) Tryz.isAgg63 Tryz.sizeOf63 rfl (hb.at (M.sel Sel.a)) rfl (by omega) rfl rfl ?_
  refine WL.alloc Tryz.zeroValue63 M rfl ?_
  intro g2_2 w M
  try simp only [Value.cells] at M
  try simp only [List.toList_toArray] at M
  refine WL.storeWA Tryz.sizeOf63 rfl rfl (by repeat (first | exact oneNil | refine oneCons rfl ?_)) rfl rfl M Upd.a ?_
  intro w M
  refine WL.nil (WX.next (W.sub [(0, _), (5, _), (6, _), (7, _), (8, _)] (.cons rfl (.cons rfl (.cons rfl (.cons rfl (.cons rfl .nil))))) (W.seq ?_)))
  obtain ⟨c, hc⟩ : ∃ c, c = el bt i := ⟨_, rfl⟩
  rw [← hc] at M
  have htk : bt.take (i + 1) = bt.take i ++ [c] := by
   rw [List.take_succ_eq_append_getElem hil, hc]
   congr 2
   simp [el, hil]
  obtain ⟨ks, hks⟩ : ∃ ks, ks = mapL ms (bt.take i) := ⟨_, rfl⟩
  rw [← hks] at M
  have hnext : mapL ms (bt.take (i + 1)) = mapC ks c := by rw [htk, mapL_snoc, hks]
  refine W.region (WL.fieldR (off := 2) Tryz.underlying63 rfl rfl Tryz.sizeOf4 rfl rfl rfl ?_)
  refine WL.loadR Tryz.isAgg4 rfl M Has.a rfl rfl (WL.nil (WX.next (W.sub [(0, _), (5, _), (6, _), (7, _), (8, _), (13, _)] (.cons rfl (.cons rfl (.cons rfl (.cons rfl (.cons rfl (.cons rfl .nil)))))) (W.cond rfl (fun c1 => ?_) (fun c1 => ?_)))))
  ·(try simp only [Bool.not_eq_true'] at c1); (try simp only [Bool.not_eq_false'] at c1); (try simp only [decide_eq_true_eq] at c1); (try simp only [decide_eq_false_iff_not] at c1)
   refine W.drawM (Asr.row g2_2 63 [str c.key, str c.value, .bool c.gone] :: Asr.mp strV gm ks :: L') (by kernel_rfl) (fun j => [3, 5].contains j) M Sel.a ?_
   clear M; intro M
   apply DG.pure_ [0, 1, 2, 4] 3 rfl (by kernel_rfl) (by kernel_rfl)
   ·intro w
    refine WL.move rfl rfl (WL.nilCheck rfl rfl (WL.fieldR (off := 1) Tryz.underlying81 rfl rfl Tryz.sizeOf79 rfl rfl rfl ?_))
    refine WL.fieldR (off := 0) Tryz.underlying63 rfl rfl Tryz.sizeOf9 rfl rfl rfl ?_
    exact Chain.end_ rfl
   apply DG.take [3, 5] 1 rfl (by kernel_rfl) (by kernel_rfl) (M.sel Sel.a)
   ·intro w M
    refine WL.load Tryz.isAgg79 rfl ((M.cellH (.there (.there hr)) 1).trans h1) rfl (WL.loadR Tryz.isAgg9 rfl M Has.a rfl rfl ?_)
    exact Chain.end_ rfl
   refine DG.step 6 0 rfl (by kernel_rfl) ?_
   refine WL.mapDelete (E := strV) Tryz.underlying79 Tryz.underlying9 rfl rfl M Has.a Upd.a ?_
   intro w M
   refine DG.go (G := fun j => [3, 5].contains j) (i := 6) (f' := 0) (done := [0, 1, 2, 4, 3, 5]) (fun h => by cases h) ?_
   refine DG.end_ (by kernel_rfl) ?_
   refine WX.blockNormal (WX.next (W.sub [(0, _), (6, _), (7, _), (8, _)] (.cons rfl (.cons rfl (.cons rfl (.cons rfl .nil)))) (W.region (WL.add rfl rfl (by first | exact wI64 (by omega) | rfl) rfl ?_))))
   refine WL.move rfl rfl (WL.nil ?_)
   skip
   have q : mdel ks c.key = mapL ms (bt.take (i + 1)) := by rw [hnext]; unfold mapC; rw [if_pos c1]
   rw [q] at M
   refine WX.round (i + 1) envSub.sf ⟨M.sel Sel.a, (by omega)⟩ (by first | omega | (dsimp only; omega))
  ·(try simp only [Bool.not_eq_true'] at c1); (try simp only [Bool.not_eq_false'] at c1); (try simp only [decide_eq_true_eq] at c1); (try simp only [decide_eq_false_iff_not] at c1)
   refine W.drawM (Asr.row g2_2 63 [str c.key, str c.value, .bool c.gone] :: Asr.mp strV gm ks :: L') (by kernel_rfl) (fun j => [3, 5, 7, 8].contains j) M Sel.a ?_
   clear M; intro M
   apply DG.pure_ [0, 1, 2, 4, 6] 5 rfl (by kernel_rfl) (by kernel_rfl)
   ·intro w
    refine WL.move rfl rfl (WL.nilCheck rfl rfl (WL.fieldR (off := 1) Tryz.underlying81 rfl rfl Tryz.sizeOf79 rfl rfl rfl ?_))
    refine WL.fieldR (off := 0) Tryz.underlying63 rfl rfl Tryz.sizeOf9 rfl rfl rfl ?_
    refine WL.fieldR (off := 1) Tryz.underlying63 rfl rfl Tryz.sizeOf9 rfl rfl rfl ?_
    exact Chain.end_ rfl
   apply DG.take [3, 5, 7, 8] 1 rfl (by kernel_rfl) (by kernel_rfl) (M.sel Sel.a)
   ·intro w M
    refine WL.load Tryz.isAgg79 rfl ((M.cellH (.there (.there hr)) 1).trans h1) rfl (WL.loadR Tryz.isAgg9 rfl M Has.a rfl rfl (WL.loadR Tryz.isAgg9 rfl M Has.a rfl rfl (WL.buildP (places := #[(0, 1)]) Tryz.underlying140 Tryz.zeroValue140 (fun _ => by simp [Tryz.sizeOf9]) rfl (by repeat (first | exact Puts.nil | exact SetAt.zero | apply SetAt.succ | apply Puts.cons rfl rfl)) rfl ?_)))
    exact Chain.end_ rfl
   refine DG.step 9 0 rfl (by kernel_rfl) ?_
   refine WL.mapUpdate (E := strV) Tryz.underlying79 Tryz.underlying9 rfl rfl rfl M Has.a Upd.a ?_
   intro w M
   refine DG.go (G := fun j => [3, 5, 7, 8].contains j) (i := 9) (f' := 0) (done := [0, 1, 2, 4, 6, 3, 5, 7, 8]) (fun h => by cases h) ?_
   refine DG.end_ (by kernel_rfl) ?_
   refine WX.blockNormal (WX.next (W.sub [(0, _), (6, _), (7, _), (8, _)] (.cons rfl (.cons rfl (.cons rfl (.cons rfl .nil)))) (W.region (WL.add rfl rfl (by first | exact wI64 (by omega) | rfl) rfl ?_))))
   refine WL.move rfl rfl (WL.nil ?_)
   skip
   have q : mput ks c.key c.value = mapL ms (bt.take (i + 1)) := by rw [hnext]; unfold mapC; rw [if_neg (by simpa using c1)]
   rw [q] at M
   refine WX.round (i + 1) envSub.sf ⟨M.sel Sel.a, (by omega)⟩ (by first | omega | (dsimp only; omega))
 ·refine W.exit (WX.thenExit (WX.thenExit (WX.blockHere (WX.end0 rfl ?_))))
  obtain rfl : i = bt.length := by omega
  rw [List.take_length] at M
  exact M.sel Sel.a
end
end Go.Proofs.YtlminileigfkcaaGreat
namespace Go.Proofs.YtlminileigfkcaaGreat
open Go Go.RowKit
section
variable {α : Type} {E : Enc α} {w0 w : World} {L : List Asr} {A : Option Addr} {cap : Nat} {l : List α}
theorem Mem.lstPre (M : Mem w0 w (Asr.lst E A cap l :: L)) (i : Nat) (hi : i ≤ l.length) : Mem w0 w (Asr.lst E A cap (l.take i) :: L) := by
 by_cases hA : A = none
 ·subst hA
  obtain ⟨_, h2⟩ := M.head
  rcases h2 with ⟨_, h3, _⟩ | ⟨g, sp, h3, _⟩
  ·have hl : l = [] := List.eq_nil_of_length_eq_zero h3
   subst hl
   simpa using M
  ·cases h3
 ·obtain ⟨g, sp, rfl, M1, hc, hm, hn, hl⟩ := Mem.ownRow (M : Mem w0 w (Asr.own E.e E.size A l.length cap (E.all l) :: L)) hA
  refine Mem.rowOwn M1 ((E.all l).drop (i * E.size) ++ sp) ?_ (E.all_length _) ?_ hm (by rw [List.length_take]; omega)
  ·rw [← List.append_assoc, ← E.all_take, List.take_append_drop]
  ·rw [← List.append_assoc, ← E.all_take, List.take_append_drop]
   exact hc
end
end Go.Proofs.YtlminileigfkcaaGreat
namespace Go.Proofs.YtlminileigfkcaaGreat
open Go Go.RowKit Bin
theorem Len_ok (m : Nat) (hm : m < 18446744073709551616) (w : World) : Fn Tryz.prog 126 [.int .u64 (m : Int)] w fun v w' => v = .int .i64 (bl m : Int) ∧ w' = w := by
 have M := Mem.refl w
 refine Fn.enter Tryz.func126 rfl Tryz.ntmps126 rfl (W.sub [(0, _)] (.cons rfl .nil) (W.seq (W.region (WL.assign rfl rfl (WL.nil (WX.next (W.sub [(0, _)] (.cons rfl .nil) (W.seq (W.condF rfl (W.skip (WX.next (W.seq (W.region (WL.move rfl rfl (WL.call Tryz.call104 rfl (Len64_ok m hm w) rfl ?_)))))))))))))))
 rintro _ _ ⟨rfl, rfl⟩
 refine WL.assign rfl rfl (WL.nil (WX.next (W.sub [(2, _)] (.cons rfl .nil) (W.ret (WX.ret1 rfl rfl ?_)))))
 exact ⟨rfl, rfl⟩
end Go.Proofs.YtlminileigfkcaaGreat
namespace Go.Proofs.YtlminileigfkcaaGreat
open Go Go.RowKit Bin
def txE : Enc (List UInt8) := ⟨9, 1, fun s => [str s], fun _ => rfl, (fun a v hv => by
 rw [List.mem_singleton] at hv
 subst hv
 rfl), by decide⟩
section
variable {lt : List UInt8 → List UInt8 → Prop} {m : List (List UInt8)} {i j : Nat}
/-- Sorted up to i but for what stands at j. -/
def GapS (lt : List UInt8 → List UInt8 → Prop) (m : List (List UInt8)) (i j : Nat) : Prop := ∀ p q, p < q → q ≤ i → q ≠ j → lt (el m p) (el m q)
theorem GapS.swap (h : GapS lt m i (j + 1)) (hj : j + 1 ≤ i) (hi : i < m.length) (hlt : lt (el m (j + 1)) (el m j)) : GapS lt ((m.set (j + 1) (el m j)).set j (el m (j + 1))) i j := by
 intro p q hpq hq hne
 have e : ∀ k, k < m.length → el ((m.set (j + 1) (el m j)).set j (el m (j + 1))) k = if j = k then el m (j + 1) else if j + 1 = k then el m j else el m k := by
  intro k hk
  rw [el_set _ _ _ _ (by simp; omega), el_set _ _ _ _ (by omega)]
 by_cases hq1 : q = j + 1
 ·have eq : el ((m.set (j + 1) (el m j)).set j (el m (j + 1))) q = el m j := by rw [e q (by omega), if_neg (by omega), if_pos (by omega)]
  by_cases hp1 : p = j
  ·have ep : el ((m.set (j + 1) (el m j)).set j (el m (j + 1))) p = el m (j + 1) := by rw [e p (by omega), if_pos (by omega)]
   rw [ep, eq]
   exact hlt
  ·have ep : el ((m.set (j + 1) (el m j)).set j (el m (j + 1))) p = el m p := by rw [e p (by omega), if_neg (by omega), if_neg (by omega)]
   rw [ep, eq]
   exact h p j (by omega) (by omega) (by omega)
 ·have eq : el ((m.set (j + 1) (el m j)).set j (el m (j + 1))) q = el m q := by rw [e q (by omega), if_neg (by omega), if_neg (by omega)]
  by_cases hp1 : p = j
  ·have ep : el ((m.set (j + 1) (el m j)).set j (el m (j + 1))) p = el m (j + 1) := by rw [e p (by omega), if_pos (by omega)]
   rw [ep, eq]
   exact h (j + 1) q (by omega) hq (by omega)
  ·by_cases hp2 : p = j + 1
   ·have ep : el ((m.set (j + 1) (el m j)).set j (el m (j + 1))) p = el m j := by rw [e p (by omega), if_neg (by omega), if_pos (by omega)]
    rw [ep, eq]
    exact h j q (by omega) hq (by omega)
   ·have ep : el ((m.set (j + 1) (el m j)).set j (el m (j + 1))) p = el m p := by rw [e p (by omega), if_neg (by omega), if_neg (by omega)]
    rw [ep, eq]
    exact h p q hpq hq (by omega)
theorem GapS.done0 (h : GapS lt m i 0) : ∀ p q, p < q → q ≤ i → lt (el m p) (el m q) := fun p q hpq hq => h p q hpq hq (by omega)
theorem GapS.done (h : GapS lt m i (j + 1)) (tr : ∀ a b c, lt a b → lt b c → lt a c) (hlt : lt (el m j) (el m (j + 1))) (hj : j + 1 ≤ i) : ∀ p q, p < q → q ≤ i → lt (el m p) (el m q) := by
 intro p q hpq hq
 by_cases e : q = j + 1
 ·subst e
  by_cases e2 : p = j
  ·subst e2
   exact hlt
  ·exact tr _ _ _ (h p j (by omega) (by omega) (by omega)) hlt
 ·exact h p q hpq hq e
end
theorem swap_permS {m : List (List UInt8)} {a b : Nat} (ha : a < m.length) (hb : b < m.length) (hab : a < b) : ((m.set b (el m a)).set a (el m b)).Perm m := by
 have e1 : el m a = m[a] := by simp [el, ha]
 have e2 : el m b = m[b] := by simp [el, hb]
 rw [e1, e2]
 exact List.set_set_perm hb ha
theorem isNaNS_ok (x : List UInt8) (w : World) : Fn Tryz.prog 150 [str x] w fun v w' => v = .bool false ∧ w = w' := by
 refine Fn.enter Tryz.func150 rfl Tryz.ntmps150 rfl (W.sub [(0, _)] (.cons rfl .nil) (W.seq (W.region (WL.assign rfl rfl (WL.nil (WX.next (W.sub [(0, _)] (.cons rfl .nil) (W.seq (W.region (WL.move rfl rfl (WL.move rfl rfl (WL.neS rfl rfl rfl (WL.assign rfl rfl (WL.nil (WX.next (W.sub [(2, _)] (.cons rfl .nil) (W.ret (WX.ret1 rfl rfl ?_))))))))))))))))))
 exact ⟨by simp, rfl⟩
theorem lessS_ok (x y : List UInt8) (w : World) : Fn Tryz.prog 139 [str x, str y] w fun v w' => v = .bool (decide (x < y)) ∧ w = w' := by
 refine Fn.enter Tryz.func139 rfl Tryz.ntmps139 rfl (W.sub [(0, _), (1, _)] (.cons rfl (.cons rfl .nil)) (W.seq (W.region (WL.assign rfl rfl (WL.nil (WX.next (W.sub [(0, _), (1, _)] (.cons rfl (.cons rfl .nil)) (W.seq (W.region (WL.move rfl rfl (WL.call Tryz.call150 rfl (isNaNS_ok x _) rfl ?_)))))))))))
 rintro _ _ ⟨rfl, rfl⟩
 refine WL.moveIfB rfl rfl (fun c0 => ?_) (fun c0 => ?_)
 ·exact absurd c0 (by simp)
 ·refine WL.off rfl rfl rfl rfl (WL.off rfl rfl rfl rfl (WL.off rfl rfl rfl rfl (WL.pickF rfl rfl rfl (WL.move rfl rfl (WL.on rfl rfl (WL.move rfl rfl (WL.on rfl rfl (WL.move rfl rfl (WL.on rfl rfl (WL.lssS rfl rfl rfl (WL.pickF rfl rfl rfl (WL.assign rfl rfl (WL.nil (WX.next (W.sub [(4, _)] (.cons rfl .nil) (W.ret (WX.ret1 rfl rfl ?_)))))))))))))))))
  exact ⟨rfl, rfl⟩
set_option maxHeartbeats 1000000 in
set_option maxRecDepth 10000 in
theorem insSortS_ok {A : Option Addr} {cap : Nat} {l : List (List UInt8)} (hl : l.length ≤ 12) (hnd : l.Nodup) (w0 w : World) (L L' : List Asr) (M : Mem w0 w L) (hd : Del (Asr.lst txE A cap l) L L') {z : Int} (hz : z = (l.length : Int)) :
 Fn Tryz.prog 133 [.slice A l.length cap, .int .i64 0, .int .i64 z] w fun _ w' => ∃ m : List (List UInt8), m.length = l.length ∧ m.Perm l ∧ (∀ p q, p < q → q < l.length → el m p < el m q) ∧ Mem w0 w' (Asr.lst txE A cap m :: L') := by
 subst hz
 have M1 := M.del hd
 replace M := M1
 have inj : ∀ (m : List (List UInt8)), m.Perm l → ∀ p q, p < m.length → q < m.length → p ≠ q → el m p ≠ el m q := by
  intro m hm p q h1 h2 hn e
  have hmn : m.Nodup := hm.nodup_iff.2 hnd
  rw [show el m p = m[p] by simp [el, h1], show el m q = m[q] by simp [el, h2]] at e
  exact hn ((List.getElem_inj hmn).1 e)
 refine Fn.enter Tryz.func133 rfl Tryz.ntmps133 rfl (W.sub [(0, _), (1, _), (2, _)] (.cons rfl (.cons rfl (.cons rfl .nil))) (W.seq (W.region (WL.move rfl rfl (WL.add rfl rfl (by first | exact wI64 (by omega) | rfl) rfl ?_)))))
 refine WL.assign rfl rfl (WL.nil (WX.next (W.sub [(0, _), (1, _), (2, _), (6, _)] (.cons rfl (.cons rfl (.cons rfl (.cons rfl .nil)))) (W.block ?_))))
 refine W.loop (ι := Nat × List (List UInt8)) (fun z => [(0, .slice A l.length cap), (1, .int .i64 0), (2, .int .i64 (l.length : Int)), (6, .int .i64 (z.1 : Int))]) (fun zz w => Mem w0 w ((fun z => Asr.lst txE A cap z.2 :: L') zz) ∧ (fun z => 1 ≤ z.1 ∧ (z.1 ≤ l.length ∨ z.1 = 1) ∧ z.2.length = l.length ∧ z.2.Perm l ∧ ∀ p q, p < q → q < z.1 → el z.2 p < el z.2 q) zz) (fun z => l.length - z.1) ((1, l)) envSub.sf ⟨M.sel Sel.a, ⟨Nat.le_refl _, .inr rfl, rfl, List.Perm.refl _, fun p q h1 h2 => by dsimp only at h2; omega⟩⟩ ?_
 clear M; rintro (⟨i, m⟩) w ⟨M, ⟨hi1, hi2, hml, hmp, hs⟩⟩; dsimp only at M hi1 hi2 hml hmp hs ⊢
 refine W.sub [(0, _), (1, _), (2, _), (6, _)] (.cons rfl (.cons rfl (.cons rfl (.cons rfl .nil)))) (W.seq (W.seq (W.region (WL.move rfl rfl (WL.move rfl rfl (WL.lss rfl rfl rfl (WL.nil (WX.next (W.sub [(0, _), (1, _), (2, _), (6, _), (12, _)] (.cons rfl (.cons rfl (.cons rfl (.cons rfl (.cons rfl .nil))))) (W.ite rfl (fun c0 => ?_) (fun c0 => ?_)))))))))))
 ·have hil : i < l.length := by omega
  refine W.skip (WX.next (W.joint (fun (c : List (List UInt8)) => [(0, .slice A l.length cap), (1, .int .i64 0), (2, .int .i64 (l.length : Int)), (6, .int .i64 (i : Int))]) (fun zj w => Mem w0 w ((fun c => Asr.lst txE A cap c :: L') zj) ∧ (fun c => c.length = l.length ∧ c.Perm l ∧ ∀ p q, p < q → q ≤ i → el c p < el c q) zj) ?_ ?_))
  ·refine W.block (W.seq (W.region (WL.move rfl rfl (WL.assign rfl rfl (WL.nil (WX.next (W.sub [(0, _), (1, _), (2, _), (6, _), (7, _)] (.cons rfl (.cons rfl (.cons rfl (.cons rfl (.cons rfl .nil))))) (W.block ?_))))))))
   refine W.loop (ι := Nat × List (List UInt8)) (fun z => [(0, .slice A l.length cap), (1, .int .i64 0), (2, .int .i64 (l.length : Int)), (6, .int .i64 (i : Int)), (7, .int .i64 (z.1 : Int))]) (fun zz w => Mem w0 w ((fun z => Asr.lst txE A cap z.2 :: L') zz) ∧ (fun z => z.1 ≤ i ∧ z.2.length = l.length ∧ z.2.Perm l ∧ GapS (fun a b => a < b) z.2 i z.1) zz) (fun z => z.1) ((i, m)) envSub.sf ⟨M.sel Sel.a, ⟨Nat.le_refl _, hml, hmp, fun p q h1 h2 h3 => hs p q h1 (by dsimp only at h2 h3; omega)⟩⟩ ?_
   clear M; rintro (⟨j, c⟩) w ⟨M, ⟨hj, hcl, hcp, hg⟩⟩; dsimp only at M hj hcl hcp hg ⊢
   refine W.sub [(0, _), (1, _), (2, _), (6, _), (7, _)] (.cons rfl (.cons rfl (.cons rfl (.cons rfl (.cons rfl .nil))))) (W.seq (W.seq (W.drawM (Asr.lst txE A cap c :: L') (by kernel_rfl) (fun j => [7, 12].contains j) M Sel.a ?_)))
   clear M; intro M
   apply DG.pure_ [0, 1, 2] 12 rfl (by kernel_rfl) (by kernel_rfl)
   ·intro w
    refine WL.move rfl rfl (WL.move rfl rfl (WL.gtr rfl rfl rfl ?_))
    exact Chain.end_ rfl
   refine DG.knowP (t := 18) rfl (fun c1 => ?_) (fun c1 => ?_)
   ·obtain ⟨k, rfl⟩ : ∃ k, j = k + 1 := ⟨j - 1, by omega⟩
    apply DG.pure_ [3, 4, 5, 6, 8, 9, 10, 11] 4 rfl (by kernel_rfl) (by kernel_rfl)
    ·intro w
     refine WL.move rfl rfl (WL.on rfl rfl (WL.move rfl rfl (WL.on rfl rfl (WL.move rfl rfl (WL.on rfl rfl (WL.idxA Tryz.underlying71 Tryz.sizeOf9 rfl rfl (RdL.isSome (E := txE) (by first | with_reducible assumption | with_reducible exact RdL.mem (by with_reducible assumption) M | exact M.rdL Has.a | exact RdLH.at (by assumption) (M.sel Sel.a) | exact RdL.nil _ _ _) (by omega)) (by omega) (by omega) (by first | exact rfl | exact (Int.toNat_of_nonneg (by omega)).symm) rfl ?_))))))
     refine WL.on rfl rfl (WL.move rfl rfl (WL.on rfl rfl (WL.move rfl rfl (WL.on rfl rfl (WL.sub' rfl rfl (by first | exact wI64 (by omega) | rfl) rfl ?_)))))
     refine WL.on rfl rfl (WL.idxA Tryz.underlying71 Tryz.sizeOf9 rfl rfl (RdL.isSome (E := txE) (by first | with_reducible assumption | with_reducible exact RdL.mem (by with_reducible assumption) M | exact M.rdL Has.a | exact RdLH.at (by assumption) (M.sel Sel.a) | exact RdL.nil _ _ _) (by omega)) (by omega) (by omega) (show ((k + 1 : Nat) : Int) - 1 = (k : Int) by omega) rfl ?_)
     exact Chain.end_ rfl
    apply DG.take [7, 12] 2 rfl (by kernel_rfl) (by kernel_rfl) (M.sel Sel.a)
    ·intro w M
     refine WL.on rfl rfl (WL.loadE0 (E := txE) Tryz.isAgg9 rfl (by first | with_reducible assumption | with_reducible exact RdL.mem (by with_reducible assumption) M | exact M.rdL Has.a | exact RdLH.at (by assumption) (M.sel Sel.a) | exact RdL.nil _ _ _) (by omega) rfl rfl ?_)
     refine WL.on rfl rfl (WL.loadE0 (E := txE) Tryz.isAgg9 rfl (by first | with_reducible assumption | with_reducible exact RdL.mem (by with_reducible assumption) M | exact M.rdL Has.a | exact RdLH.at (by assumption) (M.sel Sel.a) | exact RdL.nil _ _ _) (by omega) rfl rfl ?_)
     exact Chain.end_ rfl
    refine DG.step 13 1 rfl (by kernel_rfl) ?_
    refine WL.on rfl rfl (WL.call Tryz.call139 rfl (lessS_ok (el c (k + 1)) (el c k) _) rfl ?_)
    rintro _ _ ⟨rfl, rfl⟩
    refine DG.go (G := fun j => [7, 12].contains j) (i := 13) (f' := 1) (done := [0, 1, 2, 3, 4, 5, 6, 8, 9, 10, 11, 7, 12]) (fun h => by cases h) ?_
    apply DG.pure_ [14] 0 rfl (by kernel_rfl) (by kernel_rfl)
    ·intro w
     refine WL.pickT rfl rfl rfl ?_
     exact Chain.end_ rfl
    refine DG.end_ (by kernel_rfl) ?_
    refine WX.next (W.sub [(0, _), (1, _), (2, _), (6, _), (7, _), (30, _)] (.cons rfl (.cons rfl (.cons rfl (.cons rfl (.cons rfl (.cons rfl .nil)))))) (W.ite rfl (fun c2 => ?_) (fun c2 => ?_)))
    ·refine W.skip (WX.next (W.seq (W.block ?_)))
     have hsl : (c.set (k + 1) (el c k)).length = c.length := List.length_set
     refine W.drawM (Asr.lst txE A cap c :: L') (by kernel_rfl) (fun j => [9, 13].contains j) M Sel.a ?_
     clear M; intro M
     apply DG.pure_ [0, 1, 2, 3, 4, 5, 6, 7, 8, 10, 11, 12] 6 rfl (by kernel_rfl) (by kernel_rfl)
     ·intro w
      refine WL.move rfl rfl (WL.move rfl rfl (WL.move rfl rfl (WL.move rfl rfl (WL.sub' rfl rfl (by first | exact wI64 (by omega) | rfl) rfl ?_))))
      refine WL.move rfl rfl (WL.move rfl rfl (WL.sub' rfl rfl (by first | exact wI64 (by omega) | rfl) rfl ?_))
      refine WL.idxA Tryz.underlying71 Tryz.sizeOf9 rfl rfl (RdL.isSome (E := txE) (by first | with_reducible assumption | with_reducible exact RdL.mem (by with_reducible assumption) M | exact M.rdL Has.a | exact RdLH.at (by assumption) (M.sel Sel.a) | exact RdL.nil _ _ _) (by omega)) (by omega) (by omega) (show ((k + 1 : Nat) : Int) - 1 = (k : Int) by omega) rfl ?_
      refine WL.move rfl rfl (WL.move rfl rfl (WL.idxA Tryz.underlying71 Tryz.sizeOf9 rfl rfl (RdL.isSome (E := txE) (by first | with_reducible assumption | with_reducible exact RdL.mem (by with_reducible assumption) M | exact M.rdL Has.a | exact RdLH.at (by assumption) (M.sel Sel.a) | exact RdL.nil _ _ _) (by omega)) (by omega) (by omega) (by first | exact rfl | exact (Int.toNat_of_nonneg (by omega)).symm) rfl ?_))
      exact Chain.end_ rfl
     apply DG.take [9, 13, 14] 3 rfl (by kernel_rfl) (by kernel_rfl) (M.sel Sel.a)
     ·intro w M
      refine WL.loadE0 (E := txE) Tryz.isAgg9 rfl (by first | with_reducible assumption | with_reducible exact RdL.mem (by with_reducible assumption) M | exact M.rdL Has.a | exact RdLH.at (by assumption) (M.sel Sel.a) | exact RdL.nil _ _ _) (by omega) rfl rfl ?_
      refine WL.loadE0 (E := txE) Tryz.isAgg9 rfl (by first | with_reducible assumption | with_reducible exact RdL.mem (by with_reducible assumption) M | exact M.rdL Has.a | exact RdLH.at (by assumption) (M.sel Sel.a) | exact RdL.nil _ _ _) (by omega) rfl rfl ?_
      refine WL.idxA Tryz.underlying71 Tryz.sizeOf9 rfl rfl (RdL.isSome (E := txE) (by first | with_reducible assumption | with_reducible exact RdL.mem (by with_reducible assumption) M | exact M.rdL Has.a | exact RdLH.at (by assumption) (M.sel Sel.a) | exact RdL.nil _ _ _) (by omega)) (by omega) (by omega) (by first | exact rfl | exact (Int.toNat_of_nonneg (by omega)).symm) rfl ?_
      exact Chain.end_ rfl
     refine DG.step 15 2 rfl (by kernel_rfl) ?_
     refine WL.storeE0 (E := txE) (x' := el c k) Tryz.sizeOf9 rfl rfl rfl M Has.a (by omega) (by repeat (first | exact SetAt.zero | apply SetAt.succ)) Upd.a ?_
     intro w M
     refine DG.go (G := fun j => [9, 13].contains j) (i := 15) (f' := 2) (done := [0, 1, 2, 3, 4, 5, 6, 7, 8, 10, 11, 12, 9, 13, 14]) (fun h => by cases h) ?_
     apply DG.pure_ [16] 1 rfl (by kernel_rfl) (by kernel_rfl)
     ·intro w
      refine WL.idxA Tryz.underlying71 Tryz.sizeOf9 rfl rfl (RdL.isSome (E := txE) (by first | with_reducible assumption | with_reducible exact RdL.mem (by with_reducible assumption) M | exact M.rdL Has.a | exact RdLH.at (by assumption) (M.sel Sel.a) | exact RdL.nil _ _ _) (by omega)) (by omega) (by omega) (show ((k + 1 : Nat) : Int) - 1 = (k : Int) by omega) rfl ?_
      exact Chain.end_ rfl
     refine DG.step 17 0 rfl (by kernel_rfl) ?_
     refine WL.storeE0 (E := txE) (x' := el c (k + 1)) Tryz.sizeOf9 rfl rfl rfl M Has.a (by omega) (by repeat (first | exact SetAt.zero | apply SetAt.succ)) Upd.a ?_
     intro w M
     refine DG.go (G := fun j => [9, 13].contains j) (i := 17) (f' := 0) (done := [0, 1, 2, 3, 4, 5, 6, 7, 8, 10, 11, 12, 9, 13, 14, 15, 16]) (fun h => by cases h) ?_
     refine DG.end_ (by kernel_rfl) ?_
     refine WX.blockNormal (WX.next (W.sub [(0, _), (1, _), (2, _), (6, _), (7, _)] (.cons rfl (.cons rfl (.cons rfl (.cons rfl (.cons rfl .nil))))) (W.region (WL.move rfl rfl (WL.sub' rfl rfl (by first | exact wI64 (by omega) | rfl) rfl ?_)))))
     refine WL.assign rfl rfl (WL.nil ?_)
     skip
     have q1 : ((c.set (k + 1) (el c k)).set k (el c (k + 1))).length = l.length := by rw [List.length_set, List.length_set]; exact hcl
     have q2 : ((c.set (k + 1) (el c k)).set k (el c (k + 1))).Perm l := (swap_permS (by omega) (by omega) (by omega)).trans hcp
     have q3 := hg.swap hj (by omega) c2
     refine WX.round ((k, (c.set (k + 1) (el c k)).set k (el c (k + 1)))) envSub.sf ⟨M.sel Sel.a, ⟨by dsimp only; omega, q1, q2, q3⟩⟩ (by first | omega | (dsimp only; omega))
    ·refine W.exit (WX.thenExit (WX.thenExit (WX.blockHere (WX.blockNormal ?_))))
     have hne := inj c hcp k (k + 1) (by omega) (by omega) (by omega)
     have hdn := hg.done (fun _ _ _ => tlt_tr) (tlt_tot c2 (fun e => hne e.symm)) (by omega)
     refine WX.join (c) envSub.sf ⟨M.sel Sel.a, ⟨hcl, hcp, hdn⟩⟩
   ·apply DG.pure_ [3, 4, 5, 6, 8, 9, 10, 11] 4 rfl (by kernel_rfl) (by kernel_rfl)
    ·intro w
     refine WL.move rfl rfl (WL.off rfl rfl rfl rfl (WL.off rfl rfl rfl rfl (WL.off rfl rfl rfl rfl (WL.off rfl rfl rfl rfl (WL.off rfl rfl rfl rfl (WL.off rfl rfl rfl rfl (WL.off rfl rfl rfl rfl ?_)))))))
     exact Chain.end_ rfl
    apply DG.take [7, 12] 2 rfl (by kernel_rfl) (by kernel_rfl) (M.sel Sel.a)
    ·intro w M
     refine WL.off rfl rfl rfl rfl (WL.off rfl rfl rfl rfl ?_)
     exact Chain.end_ rfl
    refine DG.step 13 1 rfl (by kernel_rfl) ?_
    refine WL.off rfl rfl rfl rfl (DG.go (G := fun j => [7, 12].contains j) (i := 13) (f' := 1) (done := [0, 1, 2, 3, 4, 5, 6, 8, 9, 10, 11, 7, 12]) (fun h => by cases h) ?_)
    apply DG.pure_ [14] 0 rfl (by kernel_rfl) (by kernel_rfl)
    ·intro w
     refine WL.pickF rfl rfl rfl ?_
     exact Chain.end_ rfl
    refine DG.end_ (by kernel_rfl) ?_
    refine WX.next (W.sub [(0, _), (1, _), (2, _), (6, _), (7, _), (30, _)] (.cons rfl (.cons rfl (.cons rfl (.cons rfl (.cons rfl (.cons rfl .nil)))))) (W.condF rfl (W.exit (WX.thenExit (WX.thenExit (WX.blockHere (WX.blockNormal ?_)))))))
    obtain rfl : j = 0 := by omega
    have hdn := hg.done0
    refine WX.join (c) envSub.sf ⟨M.sel Sel.a, ⟨hcl, hcp, hdn⟩⟩
  clear M; rintro (c) w ⟨M, ⟨hcl, hcp, hcs⟩⟩; dsimp only at M hcl hcp hcs ⊢
  refine W.sub [(0, _), (1, _), (2, _), (6, _)] (.cons rfl (.cons rfl (.cons rfl (.cons rfl .nil)))) (W.region (WL.move rfl rfl (WL.add rfl rfl (by first | exact wI64 (by omega) | rfl) rfl ?_)))
  refine WL.assign rfl rfl (WL.nil ?_)
  refine WX.round ((i + 1, c)) envSub.sf ⟨M.sel Sel.a, ⟨by dsimp only; omega, .inl (by dsimp only; omega), hcl, hcp, fun p q h1 h2 => hcs p q h1 (by dsimp only at h2; omega)⟩⟩ (by first | omega | (dsimp only; omega))
 ·refine W.exit (WX.thenExit (WX.thenExit (WX.blockHere (WX.end0 rfl ?_))))
  exact ⟨m, hml, hmp, fun p q h1 h2 => hs p q h1 (by omega), M.sel Sel.a⟩
theorem pdqS_ok {A : Option Addr} {cap : Nat} {l : List (List UInt8)} (hl : l.length ≤ 12) (lim : Int) (hnd : l.Nodup) (w0 w : World) (L L' : List Asr) (M : Mem w0 w L) (hd : Del (Asr.lst txE A cap l) L L') :
 Fn Tryz.prog 125 [.slice A l.length cap, .int .i64 0, .int .i64 (l.length : Int), .int .i64 lim] w fun _ w' => ∃ m : List (List UInt8), m.length = l.length ∧ m.Perm l ∧ (∀ p q, p < q → q < l.length → el m p < el m q) ∧ Mem w0 w' (Asr.lst txE A cap m :: L') := by
 have M1 := M.del hd
 replace M := M1
 refine Fn.enter Tryz.func125 rfl Tryz.ntmps125 rfl (W.sub [(0, _), (1, _), (2, _), (3, _)] (.cons rfl (.cons rfl (.cons rfl (.cons rfl .nil)))) (W.seq (W.region (WL.assign rfl rfl (WL.nil (WX.next (W.sub [(0, _), (1, _), (2, _), (3, _), (8, _)] (.cons rfl (.cons rfl (.cons rfl (.cons rfl (.cons rfl .nil))))) (W.seq (W.region (WL.assign rfl rfl (WL.nil (WX.next (W.sub [(0, _), (1, _), (2, _), (3, _), (8, _), (9, _)] (.cons rfl (.cons rfl (.cons rfl (.cons rfl (.cons rfl (.cons rfl .nil)))))) (W.block (W.loop (ι := Unit) (fun _ => [(0, .slice A l.length cap), (1, .int .i64 0), (2, .int .i64 (l.length : Int)), (3, .int .i64 lim), (8, .bool true), (9, .bool true)]) (fun zz w => Mem w0 w ((fun _ => Asr.lst txE A cap l :: L') zz) ∧ (fun _ => True) zz) (fun _ => 0) (()) envSub.sf ⟨M.sel Sel.a, trivial⟩ ?_)))))))))))))))
 clear M; rintro (_) w ⟨M, -⟩; dsimp only at M ⊢
 refine W.sub [(0, _), (1, _), (2, _), (3, _), (8, _), (9, _)] (.cons rfl (.cons rfl (.cons rfl (.cons rfl (.cons rfl (.cons rfl .nil)))))) (W.block (W.seq (W.region (WL.move rfl rfl (WL.move rfl rfl (WL.sub' rfl rfl (by first | exact wI64 (by omega) | rfl) rfl ?_))))))
 refine WL.assign rfl rfl (WL.nil (WX.next (W.sub [(0, _), (1, _), (2, _), (3, _), (8, _), (9, _), (10, _)] (.cons rfl (.cons rfl (.cons rfl (.cons rfl (.cons rfl (.cons rfl (.cons rfl .nil))))))) (W.seq (W.seq (W.region (WL.move rfl rfl (WL.leq rfl rfl rfl (WL.nil (WX.next (W.sub [(0, _), (1, _), (2, _), (3, _), (8, _), (9, _), (10, _), (23, _)] (.cons rfl (.cons rfl (.cons rfl (.cons rfl (.cons rfl (.cons rfl (.cons rfl (.cons rfl .nil)))))))) (W.ite rfl (fun c0 => ?_) (fun c0 => ?_)))))))))))))
 ·refine W.seq (W.region (WL.move rfl rfl (WL.move rfl rfl (WL.move rfl rfl (WL.call Tryz.call133 rfl (insSortS_ok hl hnd w0 _ _ _ M Del.a rfl) rfl ?_)))))
  rintro _ w ⟨m, h1, h2, h3, M⟩
  refine WL.nil (WX.next (W.sub [] .nil (W.ret (WX.thenRet (WX.blockRet (WX.thenRet (WX.blockRet (WX.ret0 rfl ?_))))))))
  exact ⟨m, h1, h2, h3, M⟩
 ·exact absurd (by omega) c0
theorem sortS_ok {A : Option Addr} {cap : Nat} {l : List (List UInt8)} (hl : l.length ≤ 12) (hnd : l.Nodup) (w0 w : World) (L L' : List Asr) (M : Mem w0 w L) (hd : Del (Asr.lst txE A cap l) L L') :
 Fn Tryz.prog 105 [.slice A l.length cap] w fun _ w' => ∃ m : List (List UInt8), m.length = l.length ∧ m.Perm l ∧ m.Pairwise (· < ·) ∧ Mem w0 w' (Asr.lst txE A cap m :: L') := by
 have M1 := M.del hd
 replace M := M1
 refine Fn.enter Tryz.func105 rfl Tryz.ntmps105 rfl (W.sub [(0, _)] (.cons rfl .nil) (W.seq (W.region (WL.move rfl rfl (WL.len Tryz.underlying71 rfl rfl (WL.assign rfl rfl (WL.nil (WX.next (W.sub [(0, _), (2, _)] (.cons rfl (.cons rfl .nil)) (W.region (WL.move rfl rfl (WL.move rfl rfl (WL.move rfl rfl (WL.conv Tryz.underlying3 Tryz.underlying102 rfl (by first | exact wU64 (by omega) | exact mU64 _ | rfl) rfl ?_))))))))))))))
 refine WL.call Tryz.call126 rfl (Len_ok l.length (by omega) _) rfl ?_
 rintro _ _ ⟨rfl, rfl⟩
 refine WL.call Tryz.call125 rfl (pdqS_ok hl _ hnd w0 _ _ _ M Del.a) rfl ?_
 rintro _ w ⟨m, h1, h2, h3, M⟩
 refine WL.nil (WX.end0 rfl (⟨m, h1, h2, ?_, M⟩))
 rw [List.pairwise_iff_getElem]
 intro p q hp hq hpq
 have := h3 p q hpq (by omega)
 rw [show el m p = m[p] by simp [el, hp], show el m q = m[q] by simp [el, hq]] at this
 exact this
end Go.Proofs.YtlminileigfkcaaGreat
namespace Go.Proofs.YtlminileigfkcaaGreat
open Go Go.RowKit
/-- A sector's bytes. -/
structure Sec where
 l : List UInt8
 h : l.length = 32
instance : Inhabited Sec := ⟨⟨List.replicate 32 0, by simp⟩⟩
theorem Sec.ext {a b : Sec} (h : a.l = b.l) : a = b := by cases a; cases b; cases h; rfl
theorem bs_one {l : List UInt8} : ∀ u ∈ bs l, u.oneCell' = true := by
 intro u hu
 unfold bs at hu
 obtain ⟨b, _, rfl⟩ := List.mem_map.1 hu
 rfl
section
variable {P : Program} {n : Nat} {ρ : List (Nat × Value)} {w0 w : World} {rest : List Oper} {L L' : List Asr} {Y : Sq P n} {X : SqV P n}
variable {d : Nat} {ty : TypeId} {pos : String} {aft : Array Edge} {x y : Operand} {t t2 e : TypeId} {α : Type} {E : Enc α}
/-- All of an array in memory, as a slice. -/
theorem WL.cutArr {ad : Addr} {m size : Nat} (hm : 0 < m) (ht : P.underlying t = some (.array m e)) (hs : ∀ w, (sizeOf e).run P w = .ok size w) (hx : ev ρ x = some (.pointer (some ad))) (hd : Nat.blt d n = true)
 (kk : X.S rest ((d, .slice (some ad) m m) :: ρ) w) : X.S (⟨some d, .slice t x none none none, ty, pos, aft, none⟩ :: rest) ρ w := by
 refine WL.val rfl rfl hd (fun f hf => ?_) kk
 have h1 : ¬ m = 0 := by omega
 simp [execOp, hf.eval hx, Instr.sliceAt, run_underlying ht, Instr.sliceBounds, hs, Instr.sureAddr, h1, Addr.add]
theorem WL.cutArrH {ad : Addr} {m size k : Nat} {hi : Operand} {kh : IntKind} (hm : 0 < m) (ht : P.underlying t = some (.array m e)) (hs : ∀ w, (sizeOf e).run P w = .ok size w) (hx : ev ρ x = some (.pointer (some ad))) (hh : ev ρ hi = some (.int kh (k : Int))) (hk : k ≤ m) (hd : Nat.blt d n = true)
 (kk : X.S rest ((d, .slice (some ad) k m) :: ρ) w) : X.S (⟨some d, .slice t x none (some hi) none, ty, pos, aft, none⟩ :: rest) ρ w := by
 refine WL.val rfl rfl hd (fun f hf => ?_) kk
 have h1 : ¬ m = 0 := by omega
 simp [execOp, hf.eval hx, hf.eval hh, Instr.sliceAt, run_underlying ht, Instr.sliceBounds, Instr.sliceBound, asIntOf, hs, Instr.sureAddr, h1, hk, Addr.add]
theorem run_copy_gen {dT sT ty elem : TypeId} {g o dLen dCap size k : Nat} {a : Addr} {sLen sCap : Nat} {cur : Array Value} {t : TypeId} {cs : List Value} (w : World)
 (hu : P.underlying dT = some (.slice elem)) (hs : ∀ w, (sizeOf elem).run P w = .ok size w)
 (hg : w.heap[g]? = some (.cells cur t (0, 0))) (hk : Nat.min sLen dLen = k) (hn : cs.length = k * size)
 (hsrc : ∀ j v, cs[j]? = some v → w.cell? (a.add j) = some v) (hfit : o + cs.length ≤ cur.size) (h1 : ∀ v ∈ cs, v.oneCell' = true) :
 (Builtin.copy_ #[dT, sT] ty #[.slice (some ⟨g, o, none⟩) dLen dCap, .slice (some a) sLen sCap]).run P w =
  .ok (goInt k) (w.setRow g (cur.toList.take o ++ cs ++ cur.toList.drop (o + cs.length)).toArray) := by
 have hl := run_loadCells_list (P := P) w a cs hsrc
 have hst := run_storeCells_at P g o t cs 0 cur w hg (by simpa using hfit) h1
 simp [Builtin.copy_, run_underlying hu, Builtin.lenOf, Builtin.firstCells, hs, hk, ← hn, hl, hst]
/-- A copy into a list that is owned. -/
theorem WL.copyL {g cap o dLen dCap size k : Nat} {l l' : List α} {B : Addr} {sl sc : Nat} {cs : List Value} (ht : P.underlying t = some (.slice e)) (hs : ∀ w, (sizeOf e).run P w = .ok size w)
 (hx : ev ρ x = some (.slice (some ⟨g, o, none⟩) dLen dCap)) (hy : ev ρ y = some (.slice (some B) sl sc)) (hk : Nat.min sl dLen = k) (hcs : cs.length = k * size)
 (hsrc : ∀ j v, cs[j]? = some v → w.cell? (B.add j) = some v) (h1 : ∀ v ∈ cs, v.oneCell' = true)
 (hl : l'.length = l.length) (hall : (E.all l).take o ++ cs ++ (E.all l).drop (o + cs.length) = E.all l') (ho : o + cs.length ≤ (E.all l).length)
 (M : Mem w0 w L) (h : Upd (Asr.lst E (some ⟨g, 0, none⟩) cap l) (Asr.lst E (some ⟨g, 0, none⟩) cap l') L L') (hd : Nat.blt d n = true)
 (kk : ∀ w', Mem w0 w' L' → Y.S rest ((d, .int .i64 (k : Int)) :: ρ) w') :
 Y.S (⟨some d, .call ⟨.builtin .copy, #[x, y], #[t, t2]⟩, ty, pos, aft, none⟩ :: rest) ρ w := by
 obtain ⟨K, p1, p2⟩ := h.perm
 obtain ⟨g', sp, hA, M1, back⟩ := (M.perm p1).lstWrite (l' := l') hl rfl
 obtain rfl : g = g' := by simpa using hA
 have hg : w.heap[g]? = some (.cells (E.all l ++ sp).toArray E.e (0, 0)) := M1.head
 have hr := run_copy_gen (P := P) (dT := t) (sT := t2) (ty := ty) (dCap := dCap) (sCap := sc) w ht hs hg hk hcs hsrc (by rw [List.size_toArray, List.length_append]; exact Nat.le_trans ho (Nat.le_add_right ..)) h1
 have e1 : (E.all l ++ sp).toArray.toList.take o ++ cs ++ (E.all l ++ sp).toArray.toList.drop (o + cs.length) = E.all l' ++ sp := by
  rw [← hall]
  show (E.all l ++ sp).take o ++ cs ++ (E.all l ++ sp).drop (o + cs.length) = _
  rw [List.take_append_of_le_length (by omega), List.drop_append_of_le_length ho]
  simp [List.append_assoc]
 rw [e1] at hr
 have M2 : Mem w0 (w.setRow g (E.all l' ++ sp).toArray) (Asr.row g E.e (E.all l' ++ sp) :: K) :=
  M1.write ⟨rfl, rfl, rfl, by simp, fun k _ hk => setRow_other w g k _ (fun e => hk e)⟩ (setRow_heap w g _ _ E.e _ hg) (fun _ hf => .inl hf)
 refine WL.valW rfl rfl hd (fun a ha => ?_) (kk _ ((back _ M2).perm p2.symm))
 simp only [execOp, resolve, invoke, builtin, Sem.run_bind, Sem.run_pure, Result.andThen_ok, List.map_toArray, List.map_cons, List.map_nil, ha.eval hx, ha.eval hy, hr]
 rfl
/-- clear of a list, of which nothing is said behind. -/
theorem WL.clearAll {A : Option Addr} {cap m c bytes : Nat} {l : List α} (T : Elem P t E.e E.size bytes) (hone : ∀ z, (∀ w : World, (zeroValue E.e).run P w = .ok z w) → ∀ v ∈ z.cells.toList, v.oneCell' = true) (hx : ev ρ x = some (.slice A m c)) (hm : m = l.length)
 (M : Mem w0 w L) (h : Upd (Asr.lst E A cap l) (Asr.lst E A cap []) L L') (kk : ∀ w', Mem w0 w' L' → Y.S rest ρ w') :
 Y.S (⟨none, .call ⟨.builtin .clear, #[x], #[t]⟩, ty, pos, aft, none⟩ :: rest) ρ w := by
 subst hm
 obtain ⟨K, p1, p2⟩ := h.perm
 have M0 := M.perm p1
 have hcap : l.length ≤ cap := (M0.rdL (E := E) .here).le
 have M1 := M0.lstPre 0 (Nat.zero_le _)
 rw [List.take_zero] at M1
 cases A with
 | none =>
   refine WL.valN (v := .tuple #[]) rfl rfl (fun f hfr => ?_) (kk w (M1.perm p2.symm))
   simp only [execOp, resolve, invoke, builtin, Sem.run_bind, Sem.run_pure, Result.andThen_ok, List.map_toArray, List.map_cons, List.map_nil, hfr.eval hx]
   simp [Builtin.clear_, run_underlying T.und]
 | some ad =>
   obtain ⟨_, h2⟩ := M1.head
   rcases h2 with ⟨h3, _⟩ | ⟨g, sp, h3, _⟩
   ·cases h3
   ·cases h3
    obtain ⟨w', hr, M'⟩ := run_clear_tail (c := c) (m := l.length) T hone ty M1 (by simpa using hcap)
    refine WL.valN (v := .tuple #[]) rfl rfl (fun f hfr => ?_) (kk w' (M'.perm p2.symm))
    have e0 : ([] : List α).length * E.size = 0 := by simp
    rw [e0] at hr
    simp only [execOp, resolve, invoke, builtin, Sem.run_bind, Sem.run_pure, Result.andThen_ok, List.map_toArray, List.map_cons, List.map_nil, hfr.eval hx, hr]
end
theorem fold_set (cs : List Value) : ∀ (k off : Nat) (arr : Array Value), off + k + cs.length ≤ arr.size → ((cs.zipIdx k).foldl (fun a (c, j) => a.setIfInBounds (off + j) c) arr).toList = arr.toList.take (off + k) ++ cs ++ arr.toList.drop (off + k + cs.length) := by
 induction cs with
 | nil => intro k off arr _; simp
 | cons c cs ih =>
   intro k off arr h
   simp only [List.zipIdx_cons, List.foldl_cons]
   simp only [List.length_cons] at h
   rw [ih (k + 1) off _ (by simp; omega)]
   have hk : off + k < arr.toList.length := by simp; omega
   rw [Array.toList_setIfInBounds, show off + (k + 1) = (off + k) + 1 by omega, List.length_cons]
   rw [List.take_succ_eq_append_getElem (by simpa using hk), List.take_set_of_le (Nat.le_refl _), List.getElem_set_self, List.drop_set_of_lt (by omega), show off + k + 1 + cs.length = off + k + (cs.length + 1) by omega]
   simp
theorem fill_seg {places : Nat → Option (Nat × Nat)} {i off : Nat} {v : Value} {cs : List Value} {arr : Array Value} {rest : List (Nat × Value)} {out : Option (Array Value)} (hp : places i = some (off, cs.length)) (hv : v.cells = cs.toArray) (hl : off + cs.length ≤ arr.size)
 (h : Instr.fill places (arr.toList.take off ++ cs ++ arr.toList.drop (off + cs.length)).toArray rest = out) : Instr.fill places arr ((i, v) :: rest) = out := by
 have e := fold_set cs 0 off arr (by simpa using hl)
 have e2 : (v.cells.zipIdx.foldl (fun cs (c, j) => cs.setIfInBounds (off + j) c) arr) = (arr.toList.take off ++ cs ++ arr.toList.drop (off + cs.length)).toArray := by
  apply Array.ext'
  rw [hv]
  rw [show (cs.toArray.zipIdx) = (cs.zipIdx).toArray by simp, List.foldl_toArray']
  ·simpa using e
  ·simp
 rw [Instr.fill]
 simp only [hp, e2]
 rw [if_neg (by rw [hv]; simp; omega)]
 exact h
def secE : Enc Sec := ⟨111, 32, fun s => bs s.l, fun s => by rw [bs_length, s.h], fun _ => bs_one, by decide⟩
def writeE : Enc (Nat × Sec) := ⟨113, 33, fun p => .int .i64 (p.1 : Int) :: bs p.2.l, fun p => by rw [List.length_cons, bs_length, p.2.h], (fun p v hv => by
 rcases List.mem_cons.1 hv with rfl | hv
 ·rfl
 ·exact bs_one v hv), by decide⟩
theorem Tryz.elem111 : Elem Tryz.prog 67 111 32 32 := by
 obtain ⟨i, hi, h1, h2, h3⟩ := info_parts (P := Tryz.prog) (e := 111) (z := .agg (bs (List.replicate 32 0)).toArray) (size := 32) (bytes := 32) (by kernel_rfl)
 exact ⟨Tryz.underlying67, ⟨i, _, hi, h1, h2, h3, rfl⟩, by decide⟩
theorem Tryz.elem113 : Elem Tryz.prog 68 113 33 40 := by
 obtain ⟨i, hi, h1, h2, h3⟩ := info_parts (P := Tryz.prog) (e := 113) (z := .agg (.int .i64 0 :: bs (List.replicate 32 0)).toArray) (size := 33) (bytes := 40) (by kernel_rfl)
 exact ⟨Tryz.underlying68, ⟨i, _, hi, h1, h2, h3, rfl⟩, by decide⟩
/-- A sector of a list, as bytes. -/
theorem RdL.sec {w : World} {A : Option Addr} {cap : Nat} {l : List Sec} (h : RdL w secE A cap l) {j : Nat} (hj : j < l.length) : RdB w (some (atA A (j * 32))) 32 (el l j).l := by
 refine ⟨by rw [bs_length, Nat.mul_one], by rw [(el l j).h]; exact Nat.le_refl _, fun _ => ⟨_, rfl, ?_, fun i v hv => ?_⟩⟩
 ·obtain ⟨ad, rfl, hb, _⟩ := h.at_ (by omega)
  rw [atA_some]
  cases ad
  unfold Addr.add
  split <;> exact hb
 ·rw [atA_add]
  exact h.cell hj hv
theorem secE_set {l : List Sec} {k : Nat} {s : Sec} (hk : k < l.length) (cs : List Value) (hcs : cs = bs s.l) : (secE.all l).take (k * 32) ++ cs ++ (secE.all l).drop (k * 32 + cs.length) = secE.all (l.set k s) := by
 subst hcs
 have h1 := Enc.all_set secE l k s hk
 rw [h1, bs_length, s.h, show k * 32 + 32 = (k + 1) * secE.size from by show _ = (k + 1) * 32; omega]
 rfl
end Go.Proofs.YtlminileigfkcaaGreat
namespace Go.Proofs.YtlminileigfkcaaGreat
open Go Go.RowKit
/-- What was synced, the writes behind it, and when the power goes. -/
structure Dk where
 safe : List Sec
 waits : List (Nat × Sec)
 armed : Bool
 left : Nat
 down : Bool
def putS (s : List Sec) (p : Nat × Sec) : List Sec := s.set p.1 p.2
def nowS (safe : List Sec) (waits : List (Nat × Sec)) : List Sec := waits.foldl putS safe
def Dk.now (d : Dk) : List Sec := nowS d.safe d.waits
theorem nowS_length (waits : List (Nat × Sec)) : ∀ safe : List Sec, (nowS safe waits).length = safe.length := by
 induction waits with
 | nil => intro _; rfl
 | cons p ps ih => intro safe; exact (ih (putS safe p)).trans (List.length_set ..)
theorem nowS_snoc (safe : List Sec) (waits : List (Nat × Sec)) (p : Nat × Sec) : nowS safe (waits ++ [p]) = (nowS safe waits).set p.1 p.2 := by unfold nowS; rw [List.foldl_append]; rfl
def Dk.act (d : Dk) : Bool × Dk := if d.down then (false, d) else if d.armed = true ∧ d.left = 0 then (false, { d with down := true }) else (true, { d with left := if d.armed then d.left - 1 else d.left })
def Dk.write (d : Dk) (at_ : Nat) (s : Sec) : Nat × Dk := if d.act.1 then (0, { d.act.2 with waits := d.waits ++ [(at_, s)] }) else (6, d.act.2)
def Dk.sync (d : Dk) : Nat × Dk := if d.act.1 then (0, { d.act.2 with safe := d.now, waits := [] }) else (6, d.act.2)
theorem Dk.act_eq (d : Dk) : d.act.2 = ⟨d.safe, d.waits, d.armed, d.act.2.left, d.act.2.down⟩ := by
 unfold Dk.act
 split
 ·rfl
 ·split <;> rfl
theorem Dk.act_safe (d : Dk) : d.act.2.safe = d.safe := by rw [d.act_eq]
theorem Dk.act_waits (d : Dk) : d.act.2.waits = d.waits := by rw [d.act_eq]
theorem Dk.act_left (d : Dk) : d.act.2.left ≤ d.left := by
 unfold Dk.act
 split
 ·exact Nat.le_refl _
 ·split
  ·exact Nat.le_refl _
  ·dsimp only
   split <;> omega
structure Dk.ok (d : Dk) : Prop where
 pos : 1 ≤ d.safe.length
 len : d.safe.length ≤ 2048
 at_ : ∀ p ∈ d.waits, p.1 < d.safe.length
 left : d.left ≤ 1000000
 few : d.waits.length ≤ 100000
theorem Dk.ok.act {d : Dk} (h : d.ok) : d.act.2.ok := by
 have h1 := d.act_safe
 have h2 := d.act_waits
 have h3 := d.act_left
 exact ⟨by rw [h1]; exact h.pos, by rw [h1]; exact h.len, by rw [h1, h2]; exact h.at_, Nat.le_trans h3 h.left, by rw [h2]; exact h.few⟩
theorem Dk.now_length (d : Dk) : d.now.length = d.safe.length := nowS_length _ _
abbrev dkRow (g gs gn n : Nat) (Aw : Option Addr) (m cw : Nat) (armed : Bool) (left : Nat) (down : Bool) : Asr :=
 Asr.row g 70 [.slice (some ⟨gs, 0, none⟩) n n, .slice (some ⟨gn, 0, none⟩) n n, .slice Aw m cw, .bool armed, .int .i64 (left : Int), .bool down]
/-- A disk as it lies. -/
structure DkX where
 g : Nat
 gs : Nat
 gn : Nat
 Aw : Option Addr
 cw : Nat
 d : Dk
def DkX.O (x : DkX) : Asr := Asr.star [dkRow x.g x.gs x.gn x.d.safe.length x.Aw x.d.waits.length x.cw x.d.armed x.d.left x.d.down, Asr.lst secE (some ⟨x.gs, 0, none⟩) x.d.safe.length x.d.safe, Asr.lst secE (some ⟨x.gn, 0, none⟩) x.d.safe.length x.d.now, Asr.lst writeE x.Aw x.cw x.d.waits]
theorem diskAct_ok {g gs gn n m cw : Nat} {Aw : Option Addr} (d : Dk) (hl : d.left ≤ 1000000) (w0 w : World) (L L' : List Asr) (M : Mem w0 w L) (hd : Del (dkRow g gs gn n Aw m cw d.armed d.left d.down) L L') :
 Fn Tryz.prog 123 [.pointer (some ⟨g, 0, none⟩)] w fun v w' => v = .bool d.act.1 ∧ Mem w0 w' (dkRow g gs gn n Aw m cw d.armed d.act.2.left d.act.2.down :: L') := by
 obtain ⟨safe, waits, armed, left, down⟩ := d
 dsimp only at *
 have M1 := M.del hd
 replace M := M1
 refine Fn.enter Tryz.func123 rfl Tryz.ntmps123 rfl (W.sub [(0, _)] (.cons rfl .nil) (W.seq (W.region (WL.assign rfl rfl (WL.nil (WX.next (W.sub [(0, _)] (.cons rfl .nil) (W.seq (W.seq (W.region (WL.move rfl rfl (WL.nilCheck rfl rfl (WL.fieldR (off := 5) Tryz.underlying70 rfl rfl Tryz.sizeOf4 rfl rfl rfl ?_)))))))))))))
 refine WL.loadR Tryz.isAgg4 rfl M Has.a rfl rfl (WL.nil (WX.next (W.sub [(0, _), (6, _)] (.cons rfl (.cons rfl .nil)) (W.cond rfl (fun c0 => ?_) (fun c0 => ?_)))))
 ·(try simp only [Bool.not_eq_true'] at c0); (try simp only [Bool.not_eq_false'] at c0); (try simp only [decide_eq_true_eq] at c0); (try simp only [decide_eq_false_iff_not] at c0)
  refine W.seq (W.region (WL.assign rfl rfl (WL.nil (WX.next (W.sub [(2, _)] (.cons rfl .nil) (W.ret (WX.thenRet (WX.ret1 rfl rfl ?_))))))))
  have e : Dk.act ⟨safe, waits, armed, left, down⟩ = (false, ⟨safe, waits, armed, left, down⟩) := by unfold Dk.act; rw [if_pos c0]
  rw [e]
  exact ⟨rfl, M.sel Sel.a⟩
 ·(try simp only [Bool.not_eq_true'] at c0); (try simp only [Bool.not_eq_false'] at c0); (try simp only [decide_eq_true_eq] at c0); (try simp only [decide_eq_false_iff_not] at c0)
  refine W.skip (WX.next (W.seq (W.seq (W.region (WL.move rfl rfl (WL.nilCheck rfl rfl (WL.fieldR (off := 3) Tryz.underlying70 rfl rfl Tryz.sizeOf4 rfl rfl rfl ?_)))))))
  refine WL.loadR Tryz.isAgg4 rfl M Has.a rfl rfl (WL.moveIfB rfl rfl (fun c1 => ?_) (fun c1 => ?_))
  ·refine WL.on rfl rfl (WL.move rfl rfl (WL.on rfl rfl (WL.nilCheck rfl rfl (WL.on rfl rfl (WL.fieldR (off := 4) Tryz.underlying70 rfl rfl Tryz.sizeOf3 rfl rfl rfl ?_)))))
   refine WL.on rfl rfl (WL.loadR Tryz.isAgg3 rfl M Has.a rfl rfl (WL.on rfl rfl (WL.eqI rfl rfl rfl (WL.pickT rfl rfl rfl (WL.nil (WX.next (W.sub [(0, _), (17, _)] (.cons rfl (.cons rfl .nil)) (W.ite rfl (fun c2 => ?_) (fun c2 => ?_)))))))))
   ·refine W.seq (W.region (WL.move rfl rfl (WL.nilCheck rfl rfl (WL.fieldR (off := 5) Tryz.underlying70 rfl rfl Tryz.sizeOf4 rfl rfl rfl ?_))))
    refine WL.storeR Tryz.sizeOf4 rfl rfl rfl M Has.a (by repeat (first | exact SetAt.zero | apply SetAt.succ)) Upd.a ?_
    intro w M
    refine WL.nil (WX.next (W.sub [] .nil (W.seq (W.region (WL.assign rfl rfl (WL.nil (WX.next (W.sub [(2, _)] (.cons rfl .nil) (W.ret (WX.thenRet (WX.ret1 rfl rfl ?_)))))))))))
    have e : Dk.act ⟨safe, waits, armed, left, down⟩ = (false, ⟨safe, waits, armed, left, true⟩) := by unfold Dk.act; rw [if_neg (by simpa using c0), if_pos ⟨c1, by dsimp only; omega⟩]
    rw [e]
    exact ⟨rfl, M.sel Sel.a⟩
   ·refine W.skip (WX.next (W.seq (W.seq (W.region (WL.move rfl rfl (WL.nilCheck rfl rfl (WL.fieldR (off := 3) Tryz.underlying70 rfl rfl Tryz.sizeOf4 rfl rfl rfl ?_)))))))
    refine WL.loadR Tryz.isAgg4 rfl M Has.a rfl rfl (WL.nil (WX.next (W.sub [(0, _), (24, _)] (.cons rfl (.cons rfl .nil)) (W.cond rfl (fun c3 => ?_) (fun c3 => ?_)))))
    ·(try simp only [Bool.not_eq_true'] at c3); (try simp only [Bool.not_eq_false'] at c3); (try simp only [decide_eq_true_eq] at c3); (try simp only [decide_eq_false_iff_not] at c3)
     refine W.region (WL.move rfl rfl (WL.nilCheck rfl rfl (WL.fieldR (off := 4) Tryz.underlying70 rfl rfl Tryz.sizeOf3 rfl rfl rfl ?_)))
     refine WL.loadR Tryz.isAgg3 rfl M Has.a rfl rfl ?_
     refine WL.sub' rfl rfl (show IntKind.i64.wrap ((left : Int) - 1) = ((left - 1 : Nat) : Int) by rw [wI64 (by omega)]; omega) rfl ?_
     refine WL.nilCheck rfl rfl (WL.fieldR (off := 4) Tryz.underlying70 rfl rfl Tryz.sizeOf3 rfl rfl rfl ?_)
     refine WL.storeR Tryz.sizeOf3 rfl rfl rfl M Has.a (by repeat (first | exact SetAt.zero | apply SetAt.succ)) Upd.a ?_
     intro w M
     refine WL.nil (WX.next (W.sub [] .nil (W.seq (W.region (WL.assign rfl rfl (WL.nil (WX.next (W.sub [(2, _)] (.cons rfl .nil) (W.ret (WX.ret1 rfl rfl ?_))))))))))
     have e : Dk.act ⟨safe, waits, armed, left, down⟩ = (true, ⟨safe, waits, armed, left - 1, down⟩) := by unfold Dk.act; rw [if_neg (by simpa using c0), if_neg (by dsimp only; omega)]; dsimp only; rw [if_pos c1]
     rw [e]
     exact ⟨rfl, M.sel Sel.a⟩
    ·(try simp only [Bool.not_eq_true'] at c3); (try simp only [Bool.not_eq_false'] at c3); (try simp only [decide_eq_true_eq] at c3); (try simp only [decide_eq_false_iff_not] at c3)
     exact absurd c1 (by rw [c3]; simp)
  ·refine WL.off rfl rfl rfl rfl (WL.off rfl rfl rfl rfl (WL.off rfl rfl rfl rfl (WL.off rfl rfl rfl rfl (WL.off rfl rfl rfl rfl (WL.pickF rfl rfl rfl (WL.nil (WX.next (W.sub [(0, _), (17, _)] (.cons rfl (.cons rfl .nil)) (W.condF rfl (W.skip (WX.next (W.seq (W.seq (W.region (WL.move rfl rfl (WL.nilCheck rfl rfl (WL.fieldR (off := 3) Tryz.underlying70 rfl rfl Tryz.sizeOf4 rfl rfl rfl ?_)))))))))))))))))
   refine WL.loadR Tryz.isAgg4 rfl M Has.a rfl rfl (WL.nil (WX.next (W.sub [(0, _), (24, _)] (.cons rfl (.cons rfl .nil)) (W.cond rfl (fun c3 => ?_) (fun c3 => ?_)))))
   ·(try simp only [Bool.not_eq_true'] at c3); (try simp only [Bool.not_eq_false'] at c3); (try simp only [decide_eq_true_eq] at c3); (try simp only [decide_eq_false_iff_not] at c3)
    exact absurd c3 (by rw [c1]; simp)
   ·(try simp only [Bool.not_eq_true'] at c3); (try simp only [Bool.not_eq_false'] at c3); (try simp only [decide_eq_true_eq] at c3); (try simp only [decide_eq_false_iff_not] at c3)
    refine W.skip (WX.next (W.seq (W.region (WL.assign rfl rfl (WL.nil (WX.next (W.sub [(2, _)] (.cons rfl .nil) (W.ret (WX.ret1 rfl rfl ?_)))))))))
    have e : Dk.act ⟨safe, waits, armed, left, down⟩ = (true, ⟨safe, waits, armed, left, down⟩) := by unfold Dk.act; rw [if_neg (by simpa using c0), if_neg (by dsimp only; rw [c1]; simp)]; dsimp only; rw [if_neg (by rw [c1]; simp)]
    rw [e]
    exact ⟨rfl, M.sel Sel.a⟩
theorem writeFill {zc : Array Value} (hz : zc = (.int .i64 0 :: bs (List.replicate 32 0)).toArray) (at_ : Nat) (s : Sec) : Instr.fill (#[(0, 1), (1, 32)][·]?) zc [(0, .int .i64 (at_ : Int)), (1, .agg (bs s.l).toArray)] = some (.int .i64 (at_ : Int) :: bs s.l).toArray := by
 have hl := bs_length s.l
 rw [s.h] at hl
 subst hz
 refine fill_seg (cs := [.int .i64 (at_ : Int)]) (off := 0) rfl rfl (by simp [Value.cells]) ?_
 refine fill_seg (cs := bs s.l) (off := 1) (by rw [hl]; rfl) rfl (by rw [hl]; exact Nat.le_refl 33) ?_
 rw [Instr.fill, hl]
 simp [bs_length]
theorem RdB.src {w : World} {B : Addr} {cap : Nat} {l : List UInt8} (h : RdB w (some B) cap l) : ∀ j v, (bs l)[j]? = some v → w.cell? (B.add j) = some v := by
 intro j v hv
 have hj := (List.getElem?_eq_some_iff.1 hv).1
 rw [bs_length] at hj
 obtain ⟨ad, e, _, hc⟩ := h.at_ (by omega)
 cases e
 exact hc j v hv
theorem RdL.src {α : Type} {E : Enc α} {w : World} {B : Addr} {cap : Nat} {l : List α} (h : RdL w E (some B) cap l) : ∀ j v, (E.all l)[j]? = some v → w.cell? (B.add j) = some v := by
 intro j v hv
 have hj := (List.getElem?_eq_some_iff.1 hv).1
 have hp : 0 < l.length := by
  cases l with
  | nil => simp [Enc.all] at hj
  | cons _ _ => simp
 obtain ⟨ad, e, _, hc⟩ := h.at_ hp
 cases e
 exact hc j v hv
theorem el_same {α : Type} [Inhabited α] {l : List α} {k : Nat} {x : α} (h : k < l.length) : el (l.set k x) k = x := by rw [el_set _ _ _ _ h, if_pos rfl]
set_option maxHeartbeats 1000000 in
set_option maxRecDepth 10000 in
theorem diskWrite_ok (x : DkX) (hx : x.d.ok) (at_ : Nat) (hat : at_ < x.d.safe.length) (s : Sec) (A : Option Addr) (cap : Nat) (w0 w : World) (L L' : List Asr) (M : Mem w0 w L) (hd : Del x.O L L') (hb : RdH w0 L' A cap s.l) :
 Fn Tryz.prog 89 [.pointer (some ⟨x.g, 0, none⟩), .int .i64 (at_ : Int), .slice A 32 cap] w fun v w' => v = .int .i64 ((x.d.write at_ s).1 : Int) ∧ ∃ x' : DkX, x'.g = x.g ∧ x'.d = (x.d.write at_ s).2 ∧ Mem w0 w' (x'.O :: L') := by
 have hxl := hx.len
 have hfew := hx.few
 have hlf := hx.left
 obtain ⟨g, gs, gn, Aw, cw, d⟩ := x
 dsimp only at *
 have M1 : Mem w0 w (dkRow g gs gn d.safe.length Aw d.waits.length cw d.armed d.left d.down :: Asr.lst secE (some ⟨gs, 0, none⟩) d.safe.length d.safe :: Asr.lst secE (some ⟨gn, 0, none⟩) d.safe.length d.now :: Asr.lst writeE Aw cw d.waits :: L') := (M.del hd).unstar4
 obtain ⟨B, rfl, _, _⟩ := (hb.at (M.del hd).tail).at_ (by rw [s.h]; decide)
 replace M := M1
 have hnl : d.now.length = d.safe.length := d.now_length
 refine Fn.enter Tryz.func89 rfl Tryz.ntmps89 rfl (W.sub [(0, _), (1, _), (2, _)] (.cons rfl (.cons rfl (.cons rfl .nil))) (W.seq (W.region (WL.assign rfl rfl (WL.nil (WX.next (W.sub [(0, _), (1, _), (2, _)] (.cons rfl (.cons rfl (.cons rfl .nil))) (W.seq (W.block (W.seq (W.region (WL.move rfl rfl (WL.eqNilF Tryz.underlying28 rfl rfl rfl (WL.assign rfl rfl (WL.nil (WX.next (W.sub [(0, _), (1, _), (2, _), (7, _)] (.cons rfl (.cons rfl (.cons rfl (.cons rfl .nil)))) (W.condF rfl (W.seq (W.region (WL.move rfl rfl (WL.nilCheck rfl rfl (WL.fieldR (off := 5) Tryz.underlying70 rfl rfl Tryz.sizeOf4 rfl rfl rfl ?_)))))))))))))))))))))))
 refine WL.loadR Tryz.isAgg4 rfl M Has.a rfl rfl (WL.assign rfl rfl (WL.nil (WX.next (W.sub [(0, _), (1, _), (2, _), (10, _)] (.cons rfl (.cons rfl (.cons rfl (.cons rfl .nil)))) (W.cond rfl (fun c1 => ?_) (fun c1 => ?_))))))
 ·(try simp only [Bool.not_eq_true'] at c1); (try simp only [Bool.not_eq_false'] at c1); (try simp only [decide_eq_true_eq] at c1); (try simp only [decide_eq_false_iff_not] at c1)
  refine W.seq (W.region (WL.assign rfl rfl (WL.nil (WX.next (W.sub [(6, _)] (.cons rfl .nil) (W.ret (WX.blockRet (WX.thenRet (WX.ret1 rfl rfl ?_)))))))))
  have e : d.act = (false, d) := by unfold Dk.act; rw [if_pos c1]
  have e2 : d.write at_ s = (6, d) := by unfold Dk.write; rw [e]; rfl
  rw [e2]
  exact ⟨rfl, ⟨g, gs, gn, Aw, cw, d⟩, rfl, rfl, Mem.star4 (M.sel Sel.a)⟩
 ·(try simp only [Bool.not_eq_true'] at c1); (try simp only [Bool.not_eq_false'] at c1); (try simp only [decide_eq_true_eq] at c1); (try simp only [decide_eq_false_iff_not] at c1)
  refine W.seq (W.region (WL.move rfl rfl (WL.lss rfl rfl rfl (WL.moveIf rfl rfl (fun c2 => ?_) (fun c2 => ?_)))))
  ·exact absurd c2 (by omega)
  ·refine WL.on rfl rfl (WL.move rfl rfl (WL.on rfl rfl (WL.move rfl rfl (WL.on rfl rfl (WL.nilCheck rfl rfl (WL.on rfl rfl (WL.fieldR (off := 1) Tryz.underlying70 rfl rfl Tryz.sizeOf67 rfl rfl rfl ?_)))))))
   refine WL.on rfl rfl (WL.loadR Tryz.isAgg67 rfl M Has.a rfl rfl (WL.on rfl rfl (WL.len Tryz.underlying67 rfl rfl (WL.on rfl rfl (WL.geq rfl rfl rfl (WL.pickF rfl rfl rfl (WL.moveIf rfl rfl (fun c3 => ?_) (fun c3 => ?_))))))))
   ·exact absurd c3 (by omega)
   ·refine WL.on rfl rfl (WL.move rfl rfl (WL.on rfl rfl (WL.len Tryz.underlying84 rfl rfl (WL.on rfl rfl (WL.neI rfl rfl rfl (WL.pickF rfl rfl rfl (WL.assign rfl rfl (WL.nil (WX.next (W.sub [(0, _), (1, _), (2, _), (15, _)] (.cons rfl (.cons rfl (.cons rfl (.cons rfl .nil)))) (W.ite rfl (fun c4 => ?_) (fun c4 => ?_))))))))))))
    ·exact absurd c4 (by omega)
    ·refine W.seq (W.region (WL.move rfl rfl (WL.call Tryz.call123 rfl (diskAct_ok d hlf w0 w _ _ M Del.a) rfl ?_)))
     rintro _ w ⟨rfl, M⟩
     refine WL.not rfl rfl (WL.assign rfl rfl (WL.nil (WX.next (W.sub [(0, _), (1, _), (2, _), (32, _)] (.cons rfl (.cons rfl (.cons rfl (.cons rfl .nil)))) (W.cond rfl (fun c5 => ?_) (fun c5 => ?_))))))
     ·(try simp only [Bool.not_eq_true'] at c5); (try simp only [Bool.not_eq_false'] at c5); (try simp only [decide_eq_true_eq] at c5); (try simp only [decide_eq_false_iff_not] at c5)
      refine W.seq (W.region (WL.assign rfl rfl (WL.nil (WX.next (W.sub [(6, _)] (.cons rfl .nil) (W.ret (WX.blockRet (WX.thenRet (WX.ret1 rfl rfl ?_)))))))))
      have e2 : d.write at_ s = (6, d.act.2) := by unfold Dk.write; rw [if_neg (by simpa using c5)]
      rw [e2]
      refine ⟨rfl, ⟨g, gs, gn, Aw, cw, d.act.2⟩, rfl, rfl, ?_⟩
      rw [d.act_eq]
      exact Mem.star4 (M.sel Sel.a)
     ·(try simp only [Bool.not_eq_true'] at c5); (try simp only [Bool.not_eq_false'] at c5); (try simp only [decide_eq_true_eq] at c5); (try simp only [decide_eq_false_iff_not] at c5)
      have hup : d.act.1 = true := by simpa using c5
      refine W.skip (WX.blockNormal (WX.next (W.seq (W.region (WL.move rfl rfl (WL.nilCheck rfl rfl (WL.fieldR (off := 1) Tryz.underlying70 rfl rfl Tryz.sizeOf67 rfl rfl rfl ?_)))))))
      refine WL.loadR Tryz.isAgg67 rfl M Has.a rfl rfl (WL.move rfl rfl (WL.idxA Tryz.underlying67 Tryz.sizeOf111 rfl rfl (RdL.isSome (E := secE) (by first | with_reducible assumption | with_reducible exact RdL.mem (by with_reducible assumption) M | exact M.rdL Has.a | exact RdLH.at (by assumption) (M.sel Sel.a) | exact RdL.nil _ _ _) (by omega)) (by omega) (by omega) (by first | exact rfl | exact (Int.toNat_of_nonneg (by omega)).symm) rfl ?_))
      refine WL.cutArr (by decide) Tryz.underlying111 Tryz.sizeOf5 rfl rfl ?_
      refine WL.move rfl rfl ?_
      rw [atA_lit, Nat.zero_add]
      refine WL.copyL (E := secE) (k := 32) (l := d.now) (l' := d.now.set at_ s) (o := at_ * 32) (cs := bs s.l) Tryz.underlying84 Tryz.sizeOf5 rfl rfl rfl (by rw [bs_length, s.h]) (RdB.src (hb.at (M.sel Sel.a))) bs_one List.length_set (secE_set (by omega) _ rfl) (by rw [secE.all_length, bs_length, s.h, hnl]; show _ ≤ _ * 32; omega) M Upd.a rfl ?_
      intro w M
      refine WL.nil (WX.next (W.sub [(0, _), (1, _)] (.cons rfl (.cons rfl .nil)) (W.seq ?_)))
      have hnl2 : (d.now.set at_ s).length = d.safe.length := by rw [List.length_set]; exact hnl
      have hel : el (d.now.set at_ s) at_ = s := el_same (by omega)
      refine W.drawM ([dkRow g gs gn d.safe.length Aw d.waits.length cw d.armed d.act.2.left d.act.2.down, Asr.lst secE (some ⟨gn, 0, none⟩) d.safe.length (d.now.set at_ s)]) (by kernel_rfl) (fun j => [4, 9, 11, 12, 13, 14].contains j) M Sel.a ?_
      clear M; intro M
      apply DG.pure_ [0, 1, 2, 3, 5, 6, 7, 8, 10] 10 rfl (by kernel_rfl) (by kernel_rfl)
      ·intro w
       refine WL.move rfl rfl (WL.move rfl rfl (WL.nilCheck rfl rfl (WL.fieldR (off := 2) Tryz.underlying70 rfl rfl Tryz.sizeOf68 rfl rfl rfl ?_)))
       refine WL.move rfl rfl (WL.move rfl rfl (WL.nilCheck rfl rfl (WL.fieldR (off := 1) Tryz.underlying70 rfl rfl Tryz.sizeOf67 rfl rfl rfl ?_)))
       refine WL.move rfl rfl ?_
       exact Chain.end_ rfl
      apply DG.take [4, 9, 11, 12, 13] 5 rfl (by kernel_rfl) (by kernel_rfl) (M.sel Sel.a)
      ·intro w M
       refine WL.loadR Tryz.isAgg68 rfl M Has.a rfl rfl (WL.loadR Tryz.isAgg67 rfl M Has.a rfl rfl (WL.idxA Tryz.underlying67 Tryz.sizeOf111 rfl rfl (RdL.isSome (E := secE) (by first | with_reducible assumption | with_reducible exact RdL.mem (by with_reducible assumption) M | exact M.rdL Has.a | exact RdLH.at (by assumption) (M.sel Sel.a) | exact RdL.nil _ _ _) (by omega)) (by omega) (by omega) (by first | exact rfl | exact (Int.toNat_of_nonneg (by omega)).symm) rfl ?_))
       refine WL.loadL (E := secE) (cs := bs (el (d.now.set at_ s) at_).l) Tryz.isAgg111 Tryz.sizeOf111 rfl (M.rdL Has.a) rfl (by omega) rfl rfl ?_
       rw [hel]
       refine WL.build (cells := (.int .i64 (at_ : Int) :: bs s.l).toArray) (places := #[(0, 1), (1, 32)]) Tryz.underlying113 Tryz.zeroValue113 (fun _ => by simp [Tryz.sizeOf3, Tryz.sizeOf111]) rfl (writeFill (by kernel_rfl) at_ s) rfl ?_
       exact Chain.end_ rfl
      refine DG.step 14 4 rfl (by kernel_rfl) ?_
      refine WL.buildL (E := writeE) (l := [(at_, s)]) Tryz.elem113 M rfl rfl rfl rfl rfl rfl ?_
      intro g10_14 w M
      refine DG.go (G := fun j => [4, 9, 11, 12, 13, 14].contains j) (i := 14) (f' := 4) (done := [0, 1, 2, 3, 5, 6, 7, 8, 10, 4, 9, 11, 12, 13]) (fun _ => M.sel Sel.a) ?_
      refine DG.step 15 3 rfl (by kernel_rfl) ?_
      refine WL.appendL (E := writeE) Tryz.elem113 rfl rfl M Del.a (by first | with_reducible assumption | with_reducible exact RdL.mem (by with_reducible assumption) M | exact M.rdL Has.a | exact RdLH.at (by assumption) (M.sel Sel.a) | exact RdL.nil _ _ _) rfl rfl (by first | omega | (simp; done) | (simp; omega)) (by first | (simp only [maxLen]; omega) | (simp [maxLen]; done) | (simp [maxLen]; omega)) rfl ?_
      intro A10_15 cap10_15 w M
      refine DG.go (G := fun j => [4, 9, 11, 12, 13, 14].contains j) (i := 15) (f' := 3) (done := [0, 1, 2, 3, 5, 6, 7, 8, 10, 4, 9, 11, 12, 13, 14]) (fun h => by cases h) ?_
      apply DG.pure_ [16, 17] 1 rfl (by kernel_rfl) (by kernel_rfl)
      ·intro w
       refine WL.nilCheck rfl rfl (WL.fieldR (off := 2) Tryz.underlying70 rfl rfl Tryz.sizeOf68 rfl rfl rfl ?_)
       exact Chain.end_ rfl
      refine DG.step 18 0 rfl (by kernel_rfl) ?_
      refine WL.storeR Tryz.sizeOf68 rfl rfl rfl M Has.a (by repeat (first | exact SetAt.zero | apply SetAt.succ)) Upd.a ?_
      intro w M
      refine DG.go (G := fun j => [4, 9, 11, 12, 13, 14].contains j) (i := 18) (f' := 0) (done := [0, 1, 2, 3, 5, 6, 7, 8, 10, 4, 9, 11, 12, 13, 14, 15, 16, 17]) (fun h => by cases h) ?_
      refine DG.end_ (by kernel_rfl) ?_
      refine WX.next (W.sub [] .nil (W.seq (W.region (WL.assign rfl rfl (WL.nil (WX.next (W.sub [(6, _)] (.cons rfl .nil) (W.ret (WX.ret1 rfl rfl ?_)))))))))
      have e2 : d.write at_ s = (0, { d.act.2 with waits := d.waits ++ [(at_, s)] }) := by unfold Dk.write; rw [if_pos hup]
      rw [e2]
      refine ⟨rfl, ⟨g, gs, gn, A10_15, cap10_15, { d.act.2 with waits := d.waits ++ [(at_, s)] }⟩, rfl, rfl, ?_⟩
      have e3 : ({ d.act.2 with waits := d.waits ++ [(at_, s)] } : Dk) = ⟨d.safe, d.waits ++ [(at_, s)], d.armed, d.act.2.left, d.act.2.down⟩ := by rw [d.act_eq]
      rw [e3]
      have e4 : (⟨d.safe, d.waits ++ [(at_, s)], d.armed, d.act.2.left, d.act.2.down⟩ : Dk).now = d.now.set at_ s := nowS_snoc _ _ _
      unfold DkX.O
      dsimp only
      rw [e4]
      exact Mem.star4 (M.sel Sel.a)
end Go.Proofs.YtlminileigfkcaaGreat
namespace Go.Proofs.YtlminileigfkcaaGreat
open Go Go.RowKit
def Dk.start (n : Nat) : Dk := ⟨List.replicate n default, [], false, 0, false⟩
set_option maxRecDepth 10000 in
theorem diskNew_ok (n : Nat) (h1 : 1 ≤ n) (h2 : n ≤ 2048) (w0 : World) : Fn Tryz.prog 5 [.int .i64 (n : Int)] w0 fun v w' => ∃ x : DkX, v = .tuple #[.pointer (some ⟨x.g, 0, none⟩), .int .i64 0] ∧ x.d = Dk.start n ∧ Mem w0 w' [x.O] := by
 have M := Mem.refl w0
 obtain ⟨w, hw⟩ : ∃ w, w = w0 := ⟨w0, rfl⟩
 refine Fn.enter Tryz.func5 rfl Tryz.ntmps5 rfl (W.sub [(0, _)] (.cons rfl .nil) (W.seq (W.region (WL.assign rfl rfl (WL.assign rfl rfl (WL.nil (WX.next (W.sub [(0, _)] (.cons rfl .nil) (W.seq (W.seq (W.region (WL.move rfl rfl (WL.lss rfl rfl rfl (WL.moveIf rfl rfl (fun c0 => ?_) (fun c0 => ?_)))))))))))))))
 ·exact absurd c0 (by omega)
 ·refine WL.on rfl rfl (WL.move rfl rfl (WL.on rfl rfl (WL.gtr rfl rfl rfl (WL.pickF rfl rfl rfl (WL.nil (WX.next (W.sub [(0, _), (9, _)] (.cons rfl (.cons rfl .nil)) (W.ite rfl (fun c1 => ?_) (fun c1 => ?_)))))))))
  ·exact absurd c1 (by omega)
  ·refine W.skip (WX.next (W.seq (W.drawM ([]) (by kernel_rfl) (fun _ => false) M Sel.a ?_)))
   clear M; intro M
   apply DG.pure_ [0, 2] 6 rfl (by kernel_rfl) (by kernel_rfl)
   ·intro w
    refine WL.move rfl rfl (WL.move rfl rfl ?_)
    exact Chain.end_ rfl
   refine DG.steps [1, 3] 5 rfl (by kernel_rfl) rfl ?_
   intro i hi; simp only [List.mem_cons, List.not_mem_nil, or_false] at hi; rcases hi with rfl | rfl
   ·refine WL.makeL (E := secE) (z0 := default) Tryz.elem111 Tryz.zeroValue111 (by kernel_rfl) M rfl rfl (by omega) (by omega) (by simp only [maxLen]; omega) rfl ?_
    intro g3_1 w M
    simp only [Int.toNat_natCast] at M ⊢
    refine DG.go (G := fun _ => false) (i := 1) (f' := 5) (done := [0, 2]) (fun h => by cases h) ?_
    refine DG.step 3 4 rfl (by kernel_rfl) ?_
    refine WL.makeL (E := secE) (z0 := default) Tryz.elem111 Tryz.zeroValue111 (by kernel_rfl) M rfl rfl (by omega) (by omega) (by simp only [maxLen]; omega) rfl ?_
    intro g3_3 w M
    simp only [Int.toNat_natCast] at M ⊢
    refine DG.go (G := fun _ => false) (i := 3) (f' := 4) (done := [0, 2, 1]) (fun h => by cases h) ?_
    apply DG.pure_ [4] 3 rfl (by kernel_rfl) (by kernel_rfl)
    ·intro w
     refine WL.buildP (places := #[(0, 1), (1, 1), (2, 1), (3, 1), (4, 1), (5, 1)]) Tryz.underlying70 Tryz.zeroValue70 (fun _ => by simp [Tryz.sizeOf67, Tryz.sizeOf67, Tryz.sizeOf68, Tryz.sizeOf4, Tryz.sizeOf3, Tryz.sizeOf4]) rfl (by repeat (first | exact Puts.nil | exact SetAt.zero | apply SetAt.succ | apply Puts.cons rfl rfl)) rfl ?_
     exact Chain.end_ rfl
    refine DG.step 5 2 rfl (by kernel_rfl) ?_
    refine WL.box rfl M rfl ?_
    intro g3_5 w M
    try simp only [Value.cells] at M
    try simp only [List.toList_toArray] at M
    refine DG.go (G := fun _ => false) (i := 5) (f' := 2) (done := [0, 2, 1, 3, 4]) (fun h => by cases h) ?_
    apply DG.pure_ [6, 7] 0 rfl (by kernel_rfl) (by kernel_rfl)
    ·intro w
     refine WL.assign rfl rfl (WL.assign rfl rfl ?_)
     exact Chain.end_ rfl
    refine DG.end_ (by kernel_rfl) ?_
    refine WX.next (W.sub [(2, _), (3, _)] (.cons rfl (.cons rfl .nil)) (W.ret (WX.ret2 rfl rfl rfl ?_)))
    replace M := M.nilOwn 113 33
    refine ⟨⟨g3_5, g3_1, g3_3, none, 0, Dk.start n⟩, rfl, rfl, ?_⟩
    unfold DkX.O Dk.now Dk.start nowS
    dsimp only
    rw [List.length_replicate]
    exact Mem.star4 (M.sel Sel.a)
   ·refine WL.makeL (E := secE) (z0 := default) Tryz.elem111 Tryz.zeroValue111 (by kernel_rfl) M rfl rfl (by omega) (by omega) (by simp only [maxLen]; omega) rfl ?_
    intro g3_3 w M
    simp only [Int.toNat_natCast] at M ⊢
    refine DG.go (G := fun _ => false) (i := 3) (f' := 5) (done := [0, 2]) (fun h => by cases h) ?_
    refine DG.step 1 4 rfl (by kernel_rfl) ?_
    refine WL.makeL (E := secE) (z0 := default) Tryz.elem111 Tryz.zeroValue111 (by kernel_rfl) M rfl rfl (by omega) (by omega) (by simp only [maxLen]; omega) rfl ?_
    intro g3_1 w M
    simp only [Int.toNat_natCast] at M ⊢
    refine DG.go (G := fun _ => false) (i := 1) (f' := 4) (done := [0, 2, 3]) (fun h => by cases h) ?_
    apply DG.pure_ [4] 3 rfl (by kernel_rfl) (by kernel_rfl)
    ·intro w
     refine WL.buildP (places := #[(0, 1), (1, 1), (2, 1), (3, 1), (4, 1), (5, 1)]) Tryz.underlying70 Tryz.zeroValue70 (fun _ => by simp [Tryz.sizeOf67, Tryz.sizeOf67, Tryz.sizeOf68, Tryz.sizeOf4, Tryz.sizeOf3, Tryz.sizeOf4]) rfl (by repeat (first | exact Puts.nil | exact SetAt.zero | apply SetAt.succ | apply Puts.cons rfl rfl)) rfl ?_
     exact Chain.end_ rfl
    refine DG.step 5 2 rfl (by kernel_rfl) ?_
    refine WL.box rfl M rfl ?_
    intro g3_5 w M
    try simp only [Value.cells] at M
    try simp only [List.toList_toArray] at M
    refine DG.go (G := fun _ => false) (i := 5) (f' := 2) (done := [0, 2, 3, 1, 4]) (fun h => by cases h) ?_
    apply DG.pure_ [6, 7] 0 rfl (by kernel_rfl) (by kernel_rfl)
    ·intro w
     refine WL.assign rfl rfl (WL.assign rfl rfl ?_)
     exact Chain.end_ rfl
    refine DG.end_ (by kernel_rfl) ?_
    refine WX.next (W.sub [(2, _), (3, _)] (.cons rfl (.cons rfl .nil)) (W.ret (WX.ret2 rfl rfl rfl ?_)))
    replace M := M.nilOwn 113 33
    refine ⟨⟨g3_5, g3_1, g3_3, none, 0, Dk.start n⟩, rfl, rfl, ?_⟩
    unfold DkX.O Dk.now Dk.start nowS
    dsimp only
    rw [List.length_replicate]
    exact Mem.star4 (M.sel Sel.a)
section
variable (x : DkX) (w0 w : World) (L L' : List Asr)
theorem diskSectors_ok (M : Mem w0 w L) (h : Has x.O L) : Fn Tryz.prog 46 [.pointer (some ⟨x.g, 0, none⟩)] w fun v w' => v = .int .i64 (x.d.safe.length : Int) ∧ w' = w := by
 obtain ⟨L', hd⟩ := h.del
 have M1 := (M.del hd).unstar4
 clear M
 have M := M1
 refine Fn.enter Tryz.func46 rfl Tryz.ntmps46 rfl (W.sub [(0, _)] (.cons rfl .nil) (W.seq (W.region (WL.assign rfl rfl (WL.nil (WX.next (W.sub [(0, _)] (.cons rfl .nil) (W.seq (W.seq (W.region (WL.move rfl rfl (WL.eqNilF Tryz.underlying28 rfl rfl rfl (WL.nil (WX.next (W.sub [(0, _), (4, _)] (.cons rfl (.cons rfl .nil)) (W.condF rfl (W.skip (WX.next (W.seq (W.region (WL.move rfl rfl (WL.nilCheck rfl rfl (WL.fieldR (off := 1) Tryz.underlying70 rfl rfl Tryz.sizeOf67 rfl rfl rfl ?_)))))))))))))))))))))))
 refine WL.loadR Tryz.isAgg67 rfl M Has.a rfl rfl (WL.len Tryz.underlying67 rfl rfl (WL.assign rfl rfl (WL.nil (WX.next (W.sub [(2, _)] (.cons rfl .nil) (W.ret (WX.ret1 rfl rfl ?_)))))))
 exact ⟨rfl, rfl⟩
theorem diskUp_ok (M : Mem w0 w L) (h : Has x.O L) : Fn Tryz.prog 47 [.pointer (some ⟨x.g, 0, none⟩)] w fun v w' => v = .bool (!x.d.down) ∧ w' = w := by
 obtain ⟨L', hd⟩ := h.del
 have M1 := (M.del hd).unstar4
 clear M
 have M := M1
 refine Fn.enter Tryz.func47 rfl Tryz.ntmps47 rfl (W.sub [(0, _)] (.cons rfl .nil) (W.seq (W.region (WL.assign rfl rfl (WL.nil (WX.next (W.sub [(0, _)] (.cons rfl .nil) (W.seq (W.region (WL.move rfl rfl (WL.neNilT Tryz.underlying28 rfl rfl rfl (WL.move rfl rfl (WL.on rfl rfl (WL.move rfl rfl (WL.on rfl rfl (WL.nilCheck rfl rfl (WL.on rfl rfl (WL.fieldR (off := 5) Tryz.underlying70 rfl rfl Tryz.sizeOf4 rfl rfl rfl ?_))))))))))))))))))
 refine WL.on rfl rfl (WL.loadR Tryz.isAgg4 rfl M Has.a rfl rfl (WL.on rfl rfl (WL.not rfl rfl (WL.pickT rfl rfl rfl (WL.assign rfl rfl (WL.nil (WX.next (W.sub [(2, _)] (.cons rfl .nil) (W.ret (WX.ret1 rfl rfl ?_))))))))))
 exact ⟨rfl, rfl⟩
theorem diskArm_ok (n : Nat) (hn : n ≤ 1000000) (M : Mem w0 w L) (hd : Del x.O L L') : Fn Tryz.prog 10 [.pointer (some ⟨x.g, 0, none⟩), .int .i64 (n : Int)] w fun _ w' => Mem w0 w' ({ x with d := { x.d with armed := true, left := n } }.O :: L') := by
 have M1 := (M.del hd).unstar4
 clear M
 have M := M1
 refine Fn.enter Tryz.func10 rfl Tryz.ntmps10 rfl (W.sub [(0, _), (1, _)] (.cons rfl (.cons rfl .nil)) (W.seq (W.region (WL.move rfl rfl (WL.neNilT Tryz.underlying28 rfl rfl rfl (WL.nil (WX.next (W.sub [(0, _), (1, _), (5, _)] (.cons rfl (.cons rfl (.cons rfl .nil))) (W.condT rfl (W.region (WL.move rfl rfl (WL.move rfl rfl (WL.move rfl rfl (WL.geq rfl rfl rfl ?_))))))))))))))
 rw [show decide ((n : Int) ≥ 0) = true from decide_eq_true (by omega)]
 refine WL.move rfl rfl (WL.max rfl rfl rfl ?_)
 rw [show max (n : Int) 0 = (n : Int) by omega]
 refine WL.nilCheck rfl rfl (WL.fieldR (off := 3) Tryz.underlying70 rfl rfl Tryz.sizeOf4 rfl rfl rfl ?_)
 refine WL.storeR Tryz.sizeOf4 rfl rfl rfl M Has.a (by repeat (first | exact SetAt.zero | apply SetAt.succ)) Upd.a ?_
 intro w M
 refine WL.nilCheck rfl rfl (WL.fieldR (off := 4) Tryz.underlying70 rfl rfl Tryz.sizeOf3 rfl rfl rfl ?_)
 refine WL.storeR Tryz.sizeOf3 rfl rfl rfl M Has.a (by repeat (first | exact SetAt.zero | apply SetAt.succ)) Upd.a ?_
 intro w M
 refine WL.nil (WX.end0 rfl ?_)
 exact Mem.star4 (M.sel Sel.a)
set_option maxRecDepth 10000 in
theorem diskSync_ok (hx : x.d.ok) (M : Mem w0 w L) (hd : Del x.O L L') : Fn Tryz.prog 90 [.pointer (some ⟨x.g, 0, none⟩)] w fun v w' => v = .int .i64 (x.d.sync.1 : Int) ∧ ∃ x' : DkX, x'.g = x.g ∧ x'.d = x.d.sync.2 ∧ Mem w0 w' (x'.O :: L') := by
 have hxl := hx.len
 have hlf := hx.left
 obtain ⟨g, gs, gn, Aw, cw, d⟩ := x
 dsimp only at *
 have M1 : Mem w0 w (dkRow g gs gn d.safe.length Aw d.waits.length cw d.armed d.left d.down :: Asr.lst secE (some ⟨gs, 0, none⟩) d.safe.length d.safe :: Asr.lst secE (some ⟨gn, 0, none⟩) d.safe.length d.now :: Asr.lst writeE Aw cw d.waits :: L') := (M.del hd).unstar4
 clear M
 have M := M1
 have hnl : d.now.length = d.safe.length := d.now_length
 have hone : ∀ z, (∀ w : World, (zeroValue writeE.e).run Tryz.prog w = .ok z w) → ∀ v ∈ z.cells.toList, v.oneCell' = true := by
  intro z hz
  have h := (Tryz.zeroValue113 w0).symm.trans (hz w0)
  injection h with h
  subst h
  intro v hv
  refine writeE.one (0, default) v ?_
  exact (by kernel_rfl : (Value.agg (.int .i64 0 :: bs (List.replicate 32 0)).toArray).cells.toList = writeE.cells (0, default)) ▸ hv
 refine Fn.enter Tryz.func90 rfl Tryz.ntmps90 rfl (W.sub [(0, _)] (.cons rfl .nil) (W.seq (W.region (WL.assign rfl rfl (WL.nil (WX.next (W.sub [(0, _)] (.cons rfl .nil) (W.seq (W.seq (W.region (WL.move rfl rfl (WL.eqNilF Tryz.underlying28 rfl rfl rfl (WL.nil (WX.next (W.sub [(0, _), (4, _)] (.cons rfl (.cons rfl .nil)) (W.condF rfl (W.skip (WX.next (W.seq (W.seq (W.region (WL.move rfl rfl (WL.call Tryz.call123 rfl (diskAct_ok d hlf w0 w _ _ M Del.a) rfl ?_)))))))))))))))))))))))
 rintro _ w ⟨rfl, M⟩
 refine WL.not rfl rfl (WL.nil (WX.next (W.sub [(0, _), (7, _)] (.cons rfl (.cons rfl .nil)) (W.cond rfl (fun c1 => ?_) (fun c1 => ?_)))))
 ·(try simp only [Bool.not_eq_true'] at c1); (try simp only [Bool.not_eq_false'] at c1); (try simp only [decide_eq_true_eq] at c1); (try simp only [decide_eq_false_iff_not] at c1)
  refine W.seq (W.region (WL.assign rfl rfl (WL.nil (WX.next (W.sub [(2, _)] (.cons rfl .nil) (W.ret (WX.thenRet (WX.ret1 rfl rfl ?_))))))))
  have e2 : d.sync = (6, d.act.2) := by unfold Dk.sync; rw [if_neg (by simpa using c1)]
  rw [e2]
  refine ⟨rfl, ⟨g, gs, gn, Aw, cw, d.act.2⟩, rfl, rfl, ?_⟩
  rw [d.act_eq]
  exact Mem.star4 (M.sel Sel.a)
 ·(try simp only [Bool.not_eq_true'] at c1); (try simp only [Bool.not_eq_false'] at c1); (try simp only [decide_eq_true_eq] at c1); (try simp only [decide_eq_false_iff_not] at c1)
  have hup : d.act.1 = true := by simpa using c1
  refine W.skip (WX.next (W.seq (W.drawM ([dkRow g gs gn d.safe.length Aw d.waits.length cw d.armed d.act.2.left d.act.2.down]) (by kernel_rfl) (fun j => [3, 7].contains j) M Sel.a ?_)))
  clear M; intro M
  apply DG.pure_ [0, 1, 2, 4, 5, 6] 3 rfl (by kernel_rfl) (by kernel_rfl)
  ·intro w
   refine WL.move rfl rfl (WL.nilCheck rfl rfl (WL.fieldR (off := 0) Tryz.underlying70 rfl rfl Tryz.sizeOf67 rfl rfl rfl ?_))
   refine WL.move rfl rfl (WL.nilCheck rfl rfl (WL.fieldR (off := 1) Tryz.underlying70 rfl rfl Tryz.sizeOf67 rfl rfl rfl ?_))
   exact Chain.end_ rfl
  apply DG.take [3, 7] 1 rfl (by kernel_rfl) (by kernel_rfl) (M.sel Sel.a)
  ·intro w M
   refine WL.loadR Tryz.isAgg67 rfl M Has.a rfl rfl (WL.loadR Tryz.isAgg67 rfl M Has.a rfl rfl ?_)
   exact Chain.end_ rfl
  refine DG.step 8 0 rfl (by kernel_rfl) ?_
  refine WL.copyL (E := secE) (k := d.safe.length) (l := d.safe) (l' := d.now) (o := 0) (cs := secE.all d.now) Tryz.underlying67 Tryz.sizeOf111 rfl rfl (Nat.min_self _) (by rw [secE.all_length, hnl]; rfl) (RdL.src (M.rdL Has.a)) (secE.all_one _) hnl (by rw [List.take_zero, List.nil_append, List.drop_eq_nil_of_le (by rw [secE.all_length, secE.all_length, hnl, Nat.zero_add]; exact Nat.le_refl _), List.append_nil]) (by rw [secE.all_length, secE.all_length, hnl, Nat.zero_add]; exact Nat.le_refl _) M Upd.a rfl ?_
  intro w M
  refine DG.go (G := fun j => [3, 7].contains j) (i := 8) (f' := 0) (done := [0, 1, 2, 4, 5, 6, 3, 7]) (fun h => by cases h) ?_
  refine DG.end_ (by kernel_rfl) ?_
  refine WX.next (W.sub [(0, _)] (.cons rfl .nil) (W.seq (W.region (WL.move rfl rfl (WL.nilCheck rfl rfl (WL.fieldR (off := 2) Tryz.underlying70 rfl rfl Tryz.sizeOf68 rfl rfl rfl ?_))))))
  refine WL.loadR Tryz.isAgg68 rfl M Has.a rfl rfl (WL.clearAll (E := writeE) Tryz.elem113 hone rfl rfl M Upd.a ?_)
  intro w M
  refine WL.nil (WX.next (W.sub [(0, _)] (.cons rfl .nil) (W.seq (W.region (WL.move rfl rfl (WL.move rfl rfl (WL.nilCheck rfl rfl (WL.fieldR (off := 2) Tryz.underlying70 rfl rfl Tryz.sizeOf68 rfl rfl rfl ?_))))))))
  refine WL.loadR Tryz.isAgg68 rfl M Has.a rfl rfl (WL.cutH Tryz.underlying68 Tryz.sizeOf113 rfl rfl (by omega) (by omega) rfl rfl ?_)
  refine WL.nilCheck rfl rfl (WL.fieldR (off := 2) Tryz.underlying70 rfl rfl Tryz.sizeOf68 rfl rfl rfl ?_)
  refine WL.storeR Tryz.sizeOf68 rfl rfl rfl M Has.a (by repeat (first | exact SetAt.zero | apply SetAt.succ)) Upd.a ?_
  intro w M
  refine WL.nil (WX.next (W.sub [] .nil (W.seq (W.region (WL.assign rfl rfl (WL.nil (WX.next (W.sub [(2, _)] (.cons rfl .nil) (W.ret (WX.ret1 rfl rfl ?_))))))))))
  have e2 : d.sync = (0, { d.act.2 with safe := d.now, waits := [] }) := by unfold Dk.sync; rw [if_pos hup]
  rw [e2]
  refine ⟨rfl, ⟨g, gs, gn, Aw, cw, { d.act.2 with safe := d.now, waits := [] }⟩, rfl, rfl, ?_⟩
  have e3 : ({ d.act.2 with safe := d.now, waits := [] } : Dk) = ⟨d.now, [], d.armed, d.act.2.left, d.act.2.down⟩ := by rw [d.act_eq]
  rw [e3]
  unfold DkX.O
  dsimp only
  rw [hnl]
  exact Mem.star4 (M.sel Sel.a)
def Dk.read (d : Dk) (at_ : Nat) : List UInt8 × Nat := if d.down then ([], 6) else ((el d.now at_).l, 0)
set_option maxRecDepth 10000 in
theorem diskRead_ok (hx : x.d.ok) (at_ : Nat) (hat : at_ < x.d.safe.length) (M : Mem w0 w L) (hd : Del x.O L L') : Fn Tryz.prog 49 [.pointer (some ⟨x.g, 0, none⟩), .int .i64 (at_ : Int)] w fun v w' => ∃ A' cap', v = .tuple #[.slice A' (x.d.read at_).1.length cap', .int .i64 ((x.d.read at_).2 : Int)] ∧
 Mem w0 w' (Asr.own 5 1 A' (x.d.read at_).1.length cap' (bs (x.d.read at_).1) :: x.O :: L') := by
 have hxl := hx.len
 obtain ⟨g, gs, gn, Aw, cw, d⟩ := x
 dsimp only at *
 have M1 : Mem w0 w (dkRow g gs gn d.safe.length Aw d.waits.length cw d.armed d.left d.down :: Asr.lst secE (some ⟨gs, 0, none⟩) d.safe.length d.safe :: Asr.lst secE (some ⟨gn, 0, none⟩) d.safe.length d.now :: Asr.lst writeE Aw cw d.waits :: L') := (M.del hd).unstar4
 clear M
 have M := M1
 have hnl : d.now.length = d.safe.length := d.now_length
 refine Fn.enter Tryz.func49 rfl Tryz.ntmps49 rfl (W.sub [(0, _), (1, _)] (.cons rfl (.cons rfl .nil)) (W.seq (W.region (WL.assign rfl rfl (WL.assign rfl rfl (WL.nil (WX.next (W.sub [(0, _), (1, _)] (.cons rfl (.cons rfl .nil)) (W.seq (W.block (W.seq (W.region (WL.move rfl rfl (WL.eqNilF Tryz.underlying28 rfl rfl rfl (WL.assign rfl rfl (WL.nil (WX.next (W.sub [(0, _), (1, _), (6, _)] (.cons rfl (.cons rfl (.cons rfl .nil))) (W.condF rfl (W.seq (W.region (WL.move rfl rfl (WL.nilCheck rfl rfl (WL.fieldR (off := 5) Tryz.underlying70 rfl rfl Tryz.sizeOf4 rfl rfl rfl ?_))))))))))))))))))))))))
 refine WL.loadR Tryz.isAgg4 rfl M Has.a rfl rfl (WL.assign rfl rfl (WL.nil (WX.next (W.sub [(0, _), (1, _), (9, _)] (.cons rfl (.cons rfl (.cons rfl .nil))) (W.cond rfl (fun c1 => ?_) (fun c1 => ?_))))))
 ·(try simp only [Bool.not_eq_true'] at c1); (try simp only [Bool.not_eq_false'] at c1); (try simp only [decide_eq_true_eq] at c1); (try simp only [decide_eq_false_iff_not] at c1)
  refine W.seq (W.region (WL.assign rfl rfl (WL.assign rfl rfl (WL.nil (WX.next (W.sub [(4, _), (5, _)] (.cons rfl (.cons rfl .nil)) (W.ret (WX.blockRet (WX.thenRet (WX.ret2 rfl rfl rfl ?_))))))))))
  have e : d.read at_ = ([], 6) := by unfold Dk.read; rw [if_pos c1]
  rw [e]
  have M2 := (Mem.star4 (M.sel (K := dkRow g gs gn d.safe.length Aw d.waits.length cw d.armed d.left d.down :: Asr.lst secE (some ⟨gs, 0, none⟩) d.safe.length d.safe :: Asr.lst secE (some ⟨gn, 0, none⟩) d.safe.length d.now :: Asr.lst writeE Aw cw d.waits :: L') Sel.a)).nilOwn 5 1
  exact ⟨none, 0, rfl, M2⟩
 ·(try simp only [Bool.not_eq_true'] at c1); (try simp only [Bool.not_eq_false'] at c1); (try simp only [decide_eq_true_eq] at c1); (try simp only [decide_eq_false_iff_not] at c1)
  refine W.seq (W.region (WL.move rfl rfl (WL.lss rfl rfl rfl (WL.moveIf rfl rfl (fun c2 => ?_) (fun c2 => ?_)))))
  ·exact absurd c2 (by omega)
  ·refine WL.on rfl rfl (WL.move rfl rfl (WL.on rfl rfl (WL.move rfl rfl (WL.on rfl rfl (WL.nilCheck rfl rfl (WL.on rfl rfl (WL.fieldR (off := 1) Tryz.underlying70 rfl rfl Tryz.sizeOf67 rfl rfl rfl ?_)))))))
   refine WL.on rfl rfl (WL.loadR Tryz.isAgg67 rfl M Has.a rfl rfl (WL.on rfl rfl (WL.len Tryz.underlying67 rfl rfl (WL.on rfl rfl (WL.geq rfl rfl rfl (WL.pickF rfl rfl rfl (WL.assign rfl rfl (WL.nil (WX.next (W.sub [(0, _), (1, _), (14, _)] (.cons rfl (.cons rfl (.cons rfl .nil))) (W.ite rfl (fun c3 => ?_) (fun c3 => ?_))))))))))))
   ·exact absurd c3 (by omega)
   ·refine W.skip (WX.blockNormal (WX.next (W.seq (W.region (WL.buildB (es := []) Tryz.elem5 M rfl rfl (by exact BytesOf.nil) (by rfl) rfl rfl ?_)))))
    intro g7_0 w M
    refine WL.move rfl rfl (WL.nilCheck rfl rfl (WL.fieldR (off := 1) Tryz.underlying70 rfl rfl Tryz.sizeOf67 rfl rfl rfl ?_))
    refine WL.loadR Tryz.isAgg67 rfl M Has.a rfl rfl (WL.move rfl rfl (WL.idxA Tryz.underlying67 Tryz.sizeOf111 rfl rfl (RdL.isSome (E := secE) (by first | with_reducible assumption | with_reducible exact RdL.mem (by with_reducible assumption) M | exact M.rdL Has.a | exact RdLH.at (by assumption) (M.sel Sel.a) | exact RdL.nil _ _ _) (by omega)) (by omega) (by omega) (by first | exact rfl | exact (Int.toNat_of_nonneg (by omega)).symm) rfl ?_))
    refine WL.cutArr (by decide) Tryz.underlying111 Tryz.sizeOf5 rfl rfl ?_
    have hsl := (el d.now at_).h
    have hlen : (32 : Nat) = (el d.now at_).l.length := hsl.symm
    rw [show (Value.slice (some (atA (some ⟨gn, 0, none⟩) (at_ * 32))) 32 32) = Value.slice (some (atA (some ⟨gn, 0, none⟩) (at_ * 32))) (el d.now at_).l.length 32 by rw [hsl]]
    refine WL.appendBN Tryz.elem5 rfl rfl M Del.a (RdL.sec (M.rdL Has.a) (by omega)) rfl rfl (by first | omega | (simp; done) | (simp; omega)) rfl ?_
    intro A7_8 cap7_8 w M
    refine WL.assign rfl rfl (WL.assign rfl rfl (WL.nil (WX.next (W.sub [(4, _), (5, _)] (.cons rfl (.cons rfl .nil)) (W.ret (WX.ret2 rfl rfl rfl ?_))))))
    have e : d.read at_ = ((el d.now at_).l, 0) := by unfold Dk.read; rw [if_neg (by simpa using c1)]
    rw [e]
    have M2 := Mem.star4 (M.sel (K := dkRow g gs gn d.safe.length Aw d.waits.length cw d.armed d.left d.down :: Asr.lst secE (some ⟨gs, 0, none⟩) d.safe.length d.safe :: Asr.lst secE (some ⟨gn, 0, none⟩) d.safe.length d.now :: Asr.lst writeE Aw cw d.waits :: Asr.own 5 1 A7_8 (el d.now at_).l.length cap7_8 (bs (el d.now at_).l) :: L') Sel.a)
    exact ⟨A7_8, cap7_8, rfl, M2.f1⟩
end
/-- A torn write. -/
def mixS (b old : Sec) (n : Nat) : Sec := ⟨b.l.take n ++ old.l.drop n, by rw [List.length_append, List.length_take, List.length_drop, b.h, old.h]; omega⟩
def keepN (k : Int) : Nat := (min (max k 0) 32).toNat
def crashN (safe : List Sec) (waits : List (Nat × Sec)) (keep : List Int) : Nat → List Sec
 | 0 => safe
 | i + 1 => let s := crashN safe waits keep i; if i < keep.length then s.set (el waits i).1 (mixS (el waits i).2 (el s (el waits i).1) (keepN (el keep i))) else s
theorem crashN_length (safe : List Sec) (waits : List (Nat × Sec)) (keep : List Int) : ∀ i, (crashN safe waits keep i).length = safe.length
 | 0 => rfl
 | i + 1 => by
   unfold crashN
   split
   ·rw [List.length_set]; exact crashN_length safe waits keep i
   ·exact crashN_length safe waits keep i
theorem crashN_end (safe : List Sec) (waits : List (Nat × Sec)) (keep : List Int) : ∀ {i j : Nat}, keep.length ≤ i → i ≤ j → crashN safe waits keep j = crashN safe waits keep i := by
 intro i j hi hj
 induction j with
 | zero =>
   obtain rfl : i = 0 := by omega
   rfl
 | succ j ih =>
   rcases Nat.lt_or_ge j i with h | h
   ·obtain rfl : i = j + 1 := by omega
    rfl
   ·rw [crashN]
    (try dsimp only)
    rw [if_neg (by omega)]
    exact ih h
def Dk.crash (d : Dk) (keep : List Int) : Dk := ⟨crashN d.safe d.waits keep d.waits.length, [], false, 0, false⟩
theorem secE_mix {l : List Sec} {k n : Nat} {b : Sec} (hk : k < l.length) (hn : n ≤ 32) : (secE.all l).take (k * 32) ++ bs (b.l.take n) ++ (secE.all l).drop (k * 32 + (bs (b.l.take n)).length) = secE.all (l.set k (mixS b (el l k) n)) := by
 have hlen : (bs (b.l.take n)).length = n := by rw [bs_length, List.length_take, b.h]; omega
 have h1 := Enc.all_set secE l k (mixS b (el l k) n) hk
 have h2 : secE.cells (mixS b (el l k) n) = bs (b.l.take n) ++ (bs (el l k).l).drop n := by
  show bs (b.l.take n ++ (el l k).l.drop n) = _
  rw [bs_append]
  simp [bs]
 have h3 : secE.all l = (secE.all l).take (k * 32) ++ (bs (el l k).l ++ (secE.all l).drop ((k + 1) * 32)) := by
  have h4 := Enc.all_set secE l k (el l k) hk
  rw [show l.set k (el l k) = l by rw [show el l k = l[k] by simp [el, hk], List.set_getElem_self]] at h4
  rw [List.append_assoc] at h4
  exact h4
 have hlt : ((secE.all l).take (k * 32)).length = k * 32 := by
  rw [List.length_take, secE.all_length]
  show min (k * 32) (l.length * 32) = k * 32
  omega
 rw [h1, h2, hlen]
 have h5 : (secE.all l).drop (k * 32 + n) = (bs (el l k).l).drop n ++ (secE.all l).drop ((k + 1) * 32) := by
  conv => lhs; rw [h3]
  rw [List.drop_append, hlt, List.drop_eq_nil_of_le (by rw [hlt]; omega), List.nil_append, show k * 32 + n - k * 32 = n by omega, List.drop_append_of_le_length (by rw [bs_length, (el l k).h]; exact hn)]
 rw [h5]
 show _ = List.take (k * 32) (secE.all l) ++ (bs (b.l.take n) ++ (bs (el l k).l).drop n) ++ (secE.all l).drop ((k + 1) * 32)
 simp [List.append_assoc]
set_option maxHeartbeats 2000000 in
set_option maxRecDepth 10000 in
theorem diskCrash_ok (x : DkX) (hx : x.d.ok) {Ak : Option Addr} {ck : Nat} {keep : List Int} (hkl : keep.length ≤ 1000000) (w0 w : World) (L L' : List Asr) (hk : RdL w0 intE Ak ck keep) (M : Mem w0 w L) (hd : Del x.O L L') :
 Fn Tryz.prog 13 [.pointer (some ⟨x.g, 0, none⟩), .slice Ak keep.length ck] w fun _ w' => ∃ x' : DkX, x'.g = x.g ∧ x'.d = x.d.crash keep ∧ Mem w0 w' (x'.O :: L') := by
 have hxl := hx.len
 have hlf := hx.left
 have hfew := hx.few
 have hat := hx.at_
 obtain ⟨g, gs, gn, Aw, cw, d⟩ := x
 obtain ⟨safe, waits, armed, left, down⟩ := d
 dsimp only at *
 have M1 : Mem w0 w (dkRow g gs gn safe.length Aw waits.length cw armed left down :: Asr.lst secE (some ⟨gs, 0, none⟩) safe.length safe :: Asr.lst secE (some ⟨gn, 0, none⟩) safe.length (nowS safe waits) :: Asr.lst writeE Aw cw waits :: L') := (M.del hd).unstar4
 clear M
 have M := M1
 have hnl := nowS_length waits safe
 refine Fn.enter Tryz.func13 rfl Tryz.ntmps13 rfl (W.sub [(0, _), (1, _)] (.cons rfl (.cons rfl .nil)) (W.seq (W.seq (W.region (WL.move rfl rfl (WL.eqNilF Tryz.underlying28 rfl rfl rfl (WL.nil (WX.next (W.sub [(0, _), (1, _), (7, _)] (.cons rfl (.cons rfl (.cons rfl .nil))) (W.condF rfl (W.skip (WX.next (W.seq (W.drawM ([dkRow g gs gn safe.length Aw waits.length cw armed left down]) (by kernel_rfl) (fun j => [3, 7].contains j) M Sel.a ?_))))))))))))))
 clear M; intro M
 apply DG.pure_ [0, 1, 2, 4, 5, 6] 3 rfl (by kernel_rfl) (by kernel_rfl)
 ·intro w
  refine WL.move rfl rfl (WL.nilCheck rfl rfl (WL.fieldR (off := 1) Tryz.underlying70 rfl rfl Tryz.sizeOf67 rfl rfl rfl ?_))
  refine WL.move rfl rfl (WL.nilCheck rfl rfl (WL.fieldR (off := 0) Tryz.underlying70 rfl rfl Tryz.sizeOf67 rfl rfl rfl ?_))
  exact Chain.end_ rfl
 apply DG.take [3, 7] 1 rfl (by kernel_rfl) (by kernel_rfl) (M.sel Sel.a)
 ·intro w M
  refine WL.loadR Tryz.isAgg67 rfl M Has.a rfl rfl (WL.loadR Tryz.isAgg67 rfl M Has.a rfl rfl ?_)
  exact Chain.end_ rfl
 refine DG.step 8 0 rfl (by kernel_rfl) ?_
 refine WL.copyL (E := secE) (k := safe.length) (l := nowS safe waits) (l' := safe) (o := 0) (cs := secE.all safe) Tryz.underlying67 Tryz.sizeOf111 rfl rfl (Nat.min_self _) (by rw [secE.all_length]; rfl) (RdL.src (M.rdL Has.a)) (secE.all_one _) hnl.symm (by rw [List.take_zero, List.nil_append, List.drop_eq_nil_of_le (by rw [secE.all_length, secE.all_length, hnl, Nat.zero_add]; exact Nat.le_refl _), List.append_nil]) (by rw [secE.all_length, secE.all_length, hnl, Nat.zero_add]; exact Nat.le_refl _) M Upd.a rfl ?_
 intro w M
 refine DG.go (G := fun j => [3, 7].contains j) (i := 8) (f' := 0) (done := [0, 1, 2, 4, 5, 6, 3, 7]) (fun h => by cases h) ?_
 refine DG.end_ (by kernel_rfl) ?_
 refine WX.next (W.sub [(0, _), (1, _)] (.cons rfl (.cons rfl .nil)) (W.seq (W.seq (W.region (WL.move rfl rfl (WL.nilCheck rfl rfl (WL.fieldR (off := 2) Tryz.underlying70 rfl rfl Tryz.sizeOf68 rfl rfl rfl ?_)))))))
 refine WL.loadR Tryz.isAgg68 rfl M Has.a rfl rfl (WL.len Tryz.underlying68 rfl rfl (WL.move rfl rfl (WL.nil (WX.next (W.sub [(0, _), (1, _), (20, _), (21, _), (22, _)] (.cons rfl (.cons rfl (.cons rfl (.cons rfl (.cons rfl .nil))))) (W.block (W.loop (ι := Nat) (fun i => [(0, .pointer (some ⟨g, 0, none⟩)), (1, .slice Ak keep.length ck), (20, .slice Aw waits.length cw), (21, .int .i64 (waits.length : Int)), (22, .int .i64 (i : Int))]) (fun zz w => Mem w0 w ((fun i => dkRow g gs gn safe.length Aw waits.length cw armed left down :: Asr.lst secE (some ⟨gs, 0, none⟩) safe.length safe :: Asr.lst secE (some ⟨gn, 0, none⟩) safe.length (crashN safe waits keep i) :: Asr.lst writeE Aw cw waits :: L') zz) ∧ (fun i => i ≤ waits.length) zz) (fun i => waits.length - i) (0) envSub.sf ⟨M.sel Sel.a, Nat.zero_le _⟩ ?_)))))))
 clear M; rintro (i) w ⟨M, hi⟩; dsimp only at M hi ⊢
 refine W.sub [(0, _), (1, _), (20, _), (21, _), (22, _)] (.cons rfl (.cons rfl (.cons rfl (.cons rfl (.cons rfl .nil))))) (W.seq (W.region (WL.lss rfl rfl rfl (WL.nil (WX.next (W.sub [(0, _), (1, _), (20, _), (21, _), (22, _), (23, _)] (.cons rfl (.cons rfl (.cons rfl (.cons rfl (.cons rfl (.cons rfl .nil)))))) (W.seq (W.ite rfl (fun c1 => ?_) (fun c1 => ?_)))))))))
 ·have hil : i < waits.length := by omega
  have hai := hat _ (el_mem hil)
  have hcl := crashN_length safe waits keep i
  refine W.skip (WX.next (W.seq (W.block (W.seq (W.region (WL.move rfl rfl (WL.idxA Tryz.underlying68 Tryz.sizeOf113 rfl rfl (RdL.isSome (E := writeE) (by first | with_reducible assumption | with_reducible exact RdL.mem (by with_reducible assumption) M | exact M.rdL Has.a | exact RdLH.at (by assumption) (M.sel Sel.a) | exact RdL.nil _ _ _) (by omega)) (by omega) (by omega) (by first | exact rfl | exact (Int.toNat_of_nonneg (by omega)).symm) rfl ?_)))))))
  refine WL.loadL (E := writeE) (cs := writeE.cells (el waits i)) Tryz.isAgg113 Tryz.sizeOf113 rfl (M.rdL Has.a) rfl (by omega) rfl rfl ?_
  refine WL.alloc Tryz.zeroValue113 M rfl ?_
  intro g4_3 w M
  try simp only [Value.cells] at M
  try simp only [List.toList_toArray] at M
  refine WL.assign rfl rfl (WL.storeWA (new := writeE.cells (el waits i)) Tryz.sizeOf113 rfl rfl (writeE.one _) rfl (writeE.len _) M Upd.a ?_)
  intro w M
  refine WL.nil (WX.next (W.sub [(0, _), (1, _), (4, _), (5, _), (20, _), (21, _), (22, _)] (.cons rfl (.cons rfl (.cons rfl (.cons rfl (.cons rfl (.cons rfl (.cons rfl .nil))))))) (W.seq (W.region (WL.move rfl rfl (WL.move rfl rfl (WL.len Tryz.underlying24 rfl rfl (WL.lss rfl rfl rfl (WL.nil (WX.next (W.sub [(0, _), (1, _), (4, _), (5, _), (20, _), (21, _), (22, _), (30, _)] (.cons rfl (.cons rfl (.cons rfl (.cons rfl (.cons rfl (.cons rfl (.cons rfl (.cons rfl .nil)))))))) (W.ite rfl (fun c2 => ?_) (fun c2 => ?_)))))))))))))
  ·have hik : i < keep.length := by omega
   obtain ⟨kn, hkn, hkn2, hkn3⟩ : ∃ kn : Nat, min (max (el keep i) 0) 32 = (kn : Int) ∧ kn ≤ 32 ∧ keepN (el keep i) = kn := ⟨(min (max (el keep i) 0) 32).toNat, by omega, by omega, rfl⟩
   refine W.drawM (Asr.row g4_3 113 (writeE.cells (el waits i)) :: dkRow g gs gn safe.length Aw waits.length cw armed left down :: []) (by kernel_rfl) (fun j => [3, 5, 6, 7, 12, 13, 14, 15].contains j) M Sel.a ?_
   clear M; intro M
   apply DG.pure_ [0, 1, 2, 4, 8, 9, 10, 11] 9 rfl (by kernel_rfl) (by kernel_rfl)
   ·intro w
    refine WL.move rfl rfl (WL.nilCheck rfl rfl (WL.fieldR (off := 1) Tryz.underlying70 rfl rfl Tryz.sizeOf67 rfl rfl rfl ?_))
    refine WL.fieldR (off := 0) Tryz.underlying113 rfl rfl Tryz.sizeOf3 rfl rfl rfl ?_
    refine WL.fieldR (off := 1) Tryz.underlying113 rfl rfl Tryz.sizeOf111 rfl rfl rfl ?_
    refine WL.move rfl rfl (WL.move rfl rfl (WL.idxA Tryz.underlying24 Tryz.sizeOf3 rfl rfl (RdL.isSome (E := intE) (by first | with_reducible assumption | with_reducible exact RdL.mem (by with_reducible assumption) M | exact M.rdL Has.a | exact RdLH.at (by assumption) (M.sel Sel.a) | exact RdL.nil _ _ _) (by omega)) (by omega) (by omega) (by first | exact rfl | exact (Int.toNat_of_nonneg (by omega)).symm) rfl ?_))
    exact Chain.end_ rfl
   apply DG.take [3, 5, 6, 7, 12, 13, 14, 15] 1 rfl (by kernel_rfl) (by kernel_rfl) (M.sel Sel.a)
   ·intro w M
    refine WL.loadR Tryz.isAgg67 rfl M Has.a rfl rfl (WL.loadR (v := .int .i64 ((el waits i).1 : Int)) Tryz.isAgg3 rfl M Has.a rfl rfl ?_)
    refine WL.idxA Tryz.underlying67 Tryz.sizeOf111 rfl rfl rfl (by omega) (by omega) (by first | exact rfl | exact (Int.toNat_of_nonneg (by omega)).symm) rfl ?_
    refine WL.cutArr (by decide) Tryz.underlying111 Tryz.sizeOf5 rfl rfl ?_
    refine WL.loadE0 (E := intE) Tryz.isAgg3 rfl (by first | with_reducible assumption | with_reducible exact RdL.mem (by with_reducible assumption) M | exact M.rdL Has.a | exact RdLH.at (by assumption) (M.sel Sel.a) | exact RdL.nil _ _ _) (by omega) rfl rfl ?_
    refine WL.max rfl rfl rfl (WL.min rfl rfl rfl ?_)
    rw [hkn]
    refine WL.cutArrH (k := kn) (by decide) Tryz.underlying111 Tryz.sizeOf5 rfl rfl hkn2 rfl ?_
    exact Chain.end_ rfl
   refine DG.step 16 0 rfl (by kernel_rfl) ?_
   rw [atA_lit, Nat.zero_add]
   have hlt : (bs ((el waits i).2.l.take kn)).length = kn := by rw [bs_length, List.length_take, (el waits i).2.h]; omega
   refine WL.copyL (E := secE) (k := kn) (l := crashN safe waits keep i) (l' := (crashN safe waits keep i).set (el waits i).1 (mixS (el waits i).2 (el (crashN safe waits keep i) (el waits i).1) kn)) (o := (el waits i).1 * 32) (cs := bs ((el waits i).2.l.take kn)) Tryz.underlying84 Tryz.sizeOf5 rfl rfl (Nat.min_eq_left hkn2) (by rw [hlt, Nat.mul_one]) (fun j v hv => by
    rw [add_lit, M.cellH (g := g4_3) (cs := writeE.cells (el waits i)) (t := 113) Has.a]
    rw [show 1 + j = j + 1 by omega]
    show (bs (el waits i).2.l)[j]? = some v
    have hj := (List.getElem?_eq_some_iff.1 hv).1
    rw [hlt] at hj
    simp only [bs] at hv ⊢
    rw [List.getElem?_map, List.getElem?_take, if_pos hj] at hv
    rw [List.getElem?_map]
    exact hv) bs_one List.length_set (secE_mix (by omega) hkn2) (by rw [secE.all_length, hlt, hcl]; show _ ≤ _ * 32; omega) M Upd.a rfl ?_
   intro w M
   refine DG.go (G := fun j => [3, 5, 6, 7, 12, 13, 14, 15].contains j) (i := 16) (f' := 0) (done := [0, 1, 2, 4, 8, 9, 10, 11, 3, 5, 6, 7, 12, 13, 14, 15]) (fun h => by cases h) ?_
   refine DG.end_ (by kernel_rfl) ?_
   refine WX.blockNormal (WX.next (W.sub [(0, _), (1, _), (20, _), (21, _), (22, _)] (.cons rfl (.cons rfl (.cons rfl (.cons rfl (.cons rfl .nil))))) (W.region (WL.add rfl rfl (by first | exact wI64 (by omega) | rfl) rfl ?_))))
   refine WL.move rfl rfl (WL.nil ?_)
   skip
   have q : crashN safe waits keep (i + 1) = (crashN safe waits keep i).set (el waits i).1 (mixS (el waits i).2 (el (crashN safe waits keep i) (el waits i).1) kn) := by
    rw [crashN]
    (try dsimp only)
    rw [if_pos hik, hkn3]
   rw [← q] at M
   refine WX.round (i + 1) envSub.sf ⟨M.sel Sel.a, (by omega)⟩ (by first | omega | (dsimp only; omega))
  ·refine W.skip (WX.blockNormal (WX.next (W.region (WL.add rfl rfl (by first | exact wI64 (by omega) | rfl) rfl ?_))))
   refine WL.move rfl rfl (WL.nil ?_)
   skip
   have q : crashN safe waits keep (i + 1) = crashN safe waits keep i := by
    rw [crashN]
    (try dsimp only)
    rw [if_neg (by omega)]
   rw [← q] at M
   refine WX.round (i + 1) envSub.sf ⟨M.sel Sel.a, (by omega)⟩ (by first | omega | (dsimp only; omega))
 ·obtain rfl : i = waits.length := by omega
  have hcl := crashN_length safe waits keep waits.length
  refine W.exit (WX.thenExit (WX.thenExit (WX.blockHere (WX.next (W.seq (W.drawM ([dkRow g gs gn safe.length Aw waits.length cw armed left down]) (by kernel_rfl) (fun j => [3, 7].contains j) M Sel.a ?_))))))
  clear M; intro M
  apply DG.pure_ [0, 1, 2, 4, 5, 6] 3 rfl (by kernel_rfl) (by kernel_rfl)
  ·intro w
   refine WL.move rfl rfl (WL.nilCheck rfl rfl (WL.fieldR (off := 0) Tryz.underlying70 rfl rfl Tryz.sizeOf67 rfl rfl rfl ?_))
   refine WL.move rfl rfl (WL.nilCheck rfl rfl (WL.fieldR (off := 1) Tryz.underlying70 rfl rfl Tryz.sizeOf67 rfl rfl rfl ?_))
   exact Chain.end_ rfl
  apply DG.take [3, 7] 1 rfl (by kernel_rfl) (by kernel_rfl) (M.sel Sel.a)
  ·intro w M
   refine WL.loadR Tryz.isAgg67 rfl M Has.a rfl rfl (WL.loadR Tryz.isAgg67 rfl M Has.a rfl rfl ?_)
   exact Chain.end_ rfl
  refine DG.step 8 0 rfl (by kernel_rfl) ?_
  refine WL.copyL (E := secE) (k := safe.length) (l := safe) (l' := crashN safe waits keep waits.length) (o := 0) (cs := secE.all (crashN safe waits keep waits.length)) Tryz.underlying67 Tryz.sizeOf111 rfl rfl (Nat.min_self _) (by rw [secE.all_length, hcl]; rfl) (RdL.src (M.rdL Has.a)) (secE.all_one _) hcl (by rw [List.take_zero, List.nil_append, List.drop_eq_nil_of_le (by rw [secE.all_length, secE.all_length, hcl, Nat.zero_add]; exact Nat.le_refl _), List.append_nil]) (by rw [secE.all_length, secE.all_length, hcl, Nat.zero_add]; exact Nat.le_refl _) M Upd.a rfl ?_
  intro w M
  refine DG.go (G := fun j => [3, 7].contains j) (i := 8) (f' := 0) (done := [0, 1, 2, 4, 5, 6, 3, 7]) (fun h => by cases h) ?_
  refine DG.end_ (by kernel_rfl) ?_
  refine WX.next (W.sub [(0, _)] (.cons rfl .nil) (W.seq (W.region (WL.move rfl rfl (WL.nilCheck rfl rfl (WL.fieldR (off := 2) Tryz.underlying70 rfl rfl Tryz.sizeOf68 rfl rfl rfl ?_))))))
  refine WL.storeR Tryz.sizeOf68 rfl rfl rfl M Has.a (by repeat (first | exact SetAt.zero | apply SetAt.succ)) Upd.a ?_
  intro w M
  refine WL.nil (WX.next (W.sub [(0, _)] (.cons rfl .nil) (W.region (WL.move rfl rfl (WL.move rfl rfl (WL.move rfl rfl (WL.nilCheck rfl rfl (WL.fieldR (off := 3) Tryz.underlying70 rfl rfl Tryz.sizeOf4 rfl rfl rfl ?_))))))))
  refine WL.storeR Tryz.sizeOf4 rfl rfl rfl M Has.a (by repeat (first | exact SetAt.zero | apply SetAt.succ)) Upd.a ?_
  intro w M
  refine WL.nilCheck rfl rfl (WL.fieldR (off := 4) Tryz.underlying70 rfl rfl Tryz.sizeOf3 rfl rfl rfl ?_)
  refine WL.storeR Tryz.sizeOf3 rfl rfl rfl M Has.a (by repeat (first | exact SetAt.zero | apply SetAt.succ)) Upd.a ?_
  intro w M
  refine WL.nilCheck rfl rfl (WL.fieldR (off := 5) Tryz.underlying70 rfl rfl Tryz.sizeOf4 rfl rfl rfl ?_)
  refine WL.storeR Tryz.sizeOf4 rfl rfl rfl M Has.a (by repeat (first | exact SetAt.zero | apply SetAt.succ)) Upd.a ?_
  intro w M
  refine WL.nil (WX.end0 rfl ?_)
  replace M := M.nilOwn 113 33
  refine ⟨⟨g, gs, gn, none, 0, Dk.crash ⟨safe, waits, armed, left, down⟩ keep⟩, rfl, rfl, ?_⟩
  unfold DkX.O Dk.crash Dk.now
  dsimp only
  rw [hcl]
  exact Mem.star4 (M.sel Sel.a)
end Go.Proofs.YtlminileigfkcaaGreat
namespace Go.Proofs.YtlminileigfkcaaGreat
open Go Go.RowKit
section
variable {P : Program} {n : Nat} {ρ : List (Nat × Value)} {w : World} {rest : List Oper} {X : SqV P n}
variable {d : Nat} {ty : TypeId} {pos : String} {aft : Array Edge} {x y : Operand} {t e : TypeId}
end
section
variable {P : Program} {n : Nat} {ρ : List (Nat × Value)} {w : World} {t : TypeId}
theorem WX.retC1 {fn : Func} {R : Value → World → Prop} {p : Tmp} {ad : Addr} {cs : List Value} (hr : fn.results = #[.cell p t]) (h1 : envGet ρ p = some (.pointer (some ad)))
 (hA : ∀ w, (isAgg t).run P w = .ok true w) (hs : ∀ w, (sizeOf t).run P w = .ok cs.length w) (hc : ∀ j v, cs[j]? = some v → w.cell? (ad.add j) = some v)
 (h : R (.agg cs.toArray) w) : WX (Done P fn R) .ret n ρ w := fun a ha => ⟨ha.defers, _, by
  have e1 := ha.tmp h1
  simp only [results, hr]
  simp only [Array.getD_eq_getD_getElem?] at e1
  simp [e1, asAddr, run_loadVarAgg (P := P) hA hs hc], _, rfl, h⟩
end
section
variable {P : Program} {n : Nat} {ρ : List (Nat × Value)} {w0 w : World} {rest : List Oper} {L : List Asr} {X : SqV P n}
variable {d : Nat} {ty : TypeId} {pos : String} {aft : Array Edge} {x : Operand} {t : TypeId}
/-- A part of a variable. -/
theorem WL.loadSub {g o : Nat} {te : TypeId} {cs ss : List Value} {s : Nat} (hA : ∀ w, (isAgg t).run P w = .ok true w) (hs : ∀ w, (sizeOf t).run P w = .ok s w) (hx : ev ρ x = some (.pointer (some ⟨g, o, none⟩))) (M : Mem w0 w L) (h : Has (Asr.row g te cs) L)
 (hss : (cs.drop o).take s = ss) (hl : ss.length = s) (hd : Nat.blt d n = true)
 (kk : X.S rest ((d, .agg ss.toArray) :: ρ) w) : X.S (⟨some d, .load t x, ty, pos, aft, none⟩ :: rest) ρ w := by
 refine WL.loadAgg hA (by rw [hl]; exact hs) hx (fun j v hv => ?_) hd kk
 rw [add_lit, M.cellH h]
 subst hss
 rw [List.getElem?_take] at hv
 split at hv
 ·rwa [List.getElem?_drop] at hv
 ·cases hv
end
section
variable {P : Program} {n : Nat} {ρ : List (Nat × Value)} {w0 w : World} {rest : List Oper} {L : List Asr} {Y : Sq P n}
variable {d : Nat} {ty : TypeId} {pos : String} {aft : Array Edge} {x y : Operand} {t e : TypeId}
/-- make of bytes. -/
theorem WL.makeB {k : Nat} {kl kc : IntKind} {j : Int} (hj : j = (k : Int)) (E : Elem P t e 1 1) (hz : ∀ w, (zeroValue e).run P w = .ok (.int .u8 0) w) (M : Mem w0 w L) (hx : ev ρ x = some (.int kl j)) (hy : ev ρ y = some (.int kc j)) (hk : k ≤ 1000000) (hd : Nat.blt d n = true)
 (kk : ∀ g w', Mem w0 w' (Asr.own e 1 (some ⟨g, 0, none⟩) (List.replicate k (0 : UInt8)).length k (bs (List.replicate k 0)) :: L) → Y.S rest ((d, .slice (some ⟨g, 0, none⟩) k k) :: ρ) w') :
 Y.S (⟨some d, .makeSlice t x y, ty, pos, aft, none⟩ :: rest) ρ w := by
 subst hj
 refine WL.make E hz M hx hy (by omega) rfl (by omega) (by omega) hd fun g w' M' => ?_
 rw [Int.toNat_natCast] at M' ⊢
 refine kk g w' ?_
 have e1 : bs (List.replicate k (0 : UInt8)) = List.replicate k (Value.int .u8 0) := by simp [bs, bv]
 rw [e1, List.length_replicate]
 exact M'.rowOwn [] (by simp) (by simp) (by simp) (by simp only [maxLen]; omega) (Nat.le_refl _)
end
end Go.Proofs.YtlminileigfkcaaGreat
namespace Go.Proofs.YtlminileigfkcaaGreat
open Go Go.RowKit Go.Lib
/-- Sectors as texts. -/
def secSE : Enc Sec := ⟨9, 1, fun s => [str s.l], fun _ => rfl, (fun a v hv => by
 rw [List.mem_singleton] at hv
 subst hv
 rfl), by decide⟩
def rputE : Enc (Nat × Sec) := ⟨115, 2, fun p => [.int .i64 (p.1 : Int), str p.2.l], fun _ => rfl, (fun a v hv => by
 simp only [List.mem_cons, List.not_mem_nil, or_false] at hv
 rcases hv with rfl | rfl <;> rfl), by decide⟩
theorem Tryz.elem9 : Elem Tryz.prog 71 9 1 16 := by
 obtain ⟨i, hi, h1, h2, h3⟩ := info_parts (P := Tryz.prog) (e := 9) (z := str []) (size := 1) (bytes := 16) (by kernel_rfl)
 exact ⟨Tryz.underlying71, ⟨i, _, hi, h1, h2, h3, rfl⟩, by decide⟩
theorem Tryz.elem115 : Elem Tryz.prog 72 115 2 24 := by
 obtain ⟨i, hi, h1, h2, h3⟩ := info_parts (P := Tryz.prog) (e := 115) (z := .agg #[.int .i64 0, str []]) (size := 2) (bytes := 24) (by kernel_rfl)
 exact ⟨Tryz.underlying72, ⟨i, _, hi, h1, h2, h3, rfl⟩, by decide⟩
def leftI (d : Dk) : Int := if d.armed then (d.left : Int) else -1
abbrev rdRow (g : Nat) (As : Option Addr) (n cs : Nat) (Aw : Option Addr) (m cw : Nat) (lf : Int) (down : Bool) : Asr :=
 Asr.row g 74 [.slice As n cs, .slice Aw m cw, .int .i64 lf, .bool down]
structure RdX where
 g : Nat
 As : Option Addr
 cs : Nat
 Aw : Option Addr
 cw : Nat
 d : Dk
def RdX.O (x : RdX) : Asr := Asr.star [rdRow x.g x.As x.d.safe.length x.cs x.Aw x.d.waits.length x.cw (leftI x.d) x.d.down, Asr.lst secSE x.As x.cs x.d.safe, Asr.lst rputE x.Aw x.cw x.d.waits]
def sec0 : Sec := default
theorem blank_ok (w0 : World) : Fn Tryz.prog 22 [] w0 fun v w' => v = str sec0.l ∧ Mem w0 w' [] := by
 have M := Mem.refl w0
 obtain ⟨w, hw⟩ : ∃ w, w = w0 := ⟨w0, rfl⟩
 refine Fn.enter Tryz.func22 rfl Tryz.ntmps22 rfl (W.sub [] .nil (W.seq (W.region (WL.assign rfl rfl (WL.nil (WX.next (W.sub [] .nil (W.seq (W.region (WL.makeB (k := 32) rfl Tryz.elem5 Tryz.zeroValue5 M rfl rfl (by decide) rfl ?_))))))))))
 intro g1_0 w M
 refine WL.toStr Tryz.underlying84 Tryz.underlying5 Tryz.underlying9 rfl (M.rdB (l := List.replicate 32 0) Has.a) rfl rfl ?_
 refine WL.assign rfl rfl (WL.nil (WX.next (W.sub [(0, _)] (.cons rfl .nil) (W.ret (WX.ret1 rfl rfl ?_)))))
 exact ⟨rfl, M.sel Sel.a⟩
section
variable (x : RdX) (w0 w : World) (L L' : List Asr)
theorem refAct_ok {g n cs m cw : Nat} {As Aw : Option Addr} (d : Dk) (hl : d.left ≤ 1000000) (M : Mem w0 w L) (hd : Del (rdRow g As n cs Aw m cw (leftI d) d.down) L L') :
 Fn Tryz.prog 124 [.pointer (some ⟨g, 0, none⟩)] w fun v w' => v = .bool d.act.1 ∧ Mem w0 w' (rdRow g As n cs Aw m cw (leftI d.act.2) d.act.2.down :: L') := by
 obtain ⟨safe, waits, armed, left, down⟩ := d
 dsimp only at *
 have M1 := M.del hd
 clear M
 have M := M1
 have hlI : leftI ⟨safe, waits, armed, left, down⟩ = if armed then (left : Int) else -1 := rfl
 obtain ⟨lf, hlf⟩ : ∃ lf, lf = leftI ⟨safe, waits, armed, left, down⟩ := ⟨_, rfl⟩
 rw [← hlf] at M
 have hb : -1 ≤ lf ∧ lf ≤ 1000000 := by rw [hlf, hlI]; split <;> omega
 refine Fn.enter Tryz.func124 rfl Tryz.ntmps124 rfl (W.sub [(0, _)] (.cons rfl .nil) (W.seq (W.region (WL.assign rfl rfl (WL.nil (WX.next (W.sub [(0, _)] (.cons rfl .nil) (W.joint (fun (b : Bool) => [(0, .pointer (some ⟨g, 0, none⟩))]) (fun zj w => Mem w0 w ((fun b => rdRow g As n cs Aw m cw lf b :: L') zj) ∧ (fun b => b = (down || decide (lf = 0))) zj) ?_ ?_))))))))
 ·refine W.seq (W.region (WL.move rfl rfl (WL.nilCheck rfl rfl (WL.fieldR (off := 2) Tryz.underlying74 rfl rfl Tryz.sizeOf3 rfl rfl rfl ?_))))
  refine WL.loadR Tryz.isAgg3 rfl M Has.a rfl rfl (WL.eqI rfl rfl rfl (WL.nil (WX.next (W.sub [(0, _), (7, _)] (.cons rfl (.cons rfl .nil)) (W.ite rfl (fun c0 => ?_) (fun c0 => ?_))))))
  ·refine W.region (WL.move rfl rfl (WL.nilCheck rfl rfl (WL.fieldR (off := 3) Tryz.underlying74 rfl rfl Tryz.sizeOf4 rfl rfl rfl ?_)))
   refine WL.storeR Tryz.sizeOf4 rfl rfl rfl M Has.a (by repeat (first | exact SetAt.zero | apply SetAt.succ)) Upd.a ?_
   intro w M
   refine WL.nil ?_
   refine WX.join (true) envSub.sf ⟨M.sel Sel.a, (by rw [decide_eq_true c0]; simp)⟩
  ·refine W.skip ?_
   refine WX.join (down) envSub.sf ⟨M.sel Sel.a, (by rw [decide_eq_false c0]; simp)⟩
 clear M; rintro (b) w ⟨M, hbb⟩; dsimp only at M hbb ⊢
 refine W.sub [(0, _)] (.cons rfl .nil) (W.seq (W.seq (W.region (WL.move rfl rfl (WL.nilCheck rfl rfl (WL.fieldR (off := 3) Tryz.underlying74 rfl rfl Tryz.sizeOf4 rfl rfl rfl ?_))))))
 refine WL.loadR Tryz.isAgg4 rfl M Has.a rfl rfl (WL.nil (WX.next (W.sub [(0, _), (14, _)] (.cons rfl (.cons rfl .nil)) (W.cond rfl (fun c1 => ?_) (fun c1 => ?_)))))
 ·(try simp only [Bool.not_eq_true'] at c1); (try simp only [Bool.not_eq_false'] at c1); (try simp only [decide_eq_true_eq] at c1); (try simp only [decide_eq_false_iff_not] at c1)
  refine W.seq (W.region (WL.assign rfl rfl (WL.nil (WX.next (W.sub [(2, _)] (.cons rfl .nil) (W.ret (WX.thenRet (WX.ret1 rfl rfl ?_))))))))
  have hbt : (down || decide (lf = 0)) = true := by rw [← hbb]; exact c1
  rw [c1] at M
  cases hdn : down with
  | true =>
    have e : Dk.act ⟨safe, waits, armed, left, true⟩ = (false, ⟨safe, waits, armed, left, true⟩) := by unfold Dk.act; rw [if_pos rfl]
    rw [e]
    rw [hdn] at hlf
    rw [hlf] at M
    exact ⟨rfl, M.sel Sel.a⟩
  | false =>
    rw [hdn] at hbt hlf hlI
    have h0 : lf = 0 := by simpa using hbt
    have ha : armed = true ∧ left = 0 := by
     rw [hlf, hlI] at h0
     cases armed with
     | true => simp at h0; exact ⟨rfl, h0⟩
     | false => simp at h0
    have e : Dk.act ⟨safe, waits, armed, left, false⟩ = (false, ⟨safe, waits, armed, left, true⟩) := by unfold Dk.act; rw [if_neg (by simp), if_pos ha]
    rw [e]
    rw [hlf] at M
    exact ⟨rfl, M.sel Sel.a⟩
 ·(try simp only [Bool.not_eq_true'] at c1); (try simp only [Bool.not_eq_false'] at c1); (try simp only [decide_eq_true_eq] at c1); (try simp only [decide_eq_false_iff_not] at c1)
  have hbf : b = false := by simpa using c1
  subst hbf
  obtain ⟨hdn, hne⟩ : down = false ∧ lf ≠ 0 := by simpa using hbb.symm
  have hno : ¬ (armed = true ∧ left = 0) := fun h => hne (by rw [hlf, hlI, if_pos h.1]; omega)
  refine W.skip (WX.next (W.seq (W.seq (W.region (WL.move rfl rfl (WL.nilCheck rfl rfl (WL.fieldR (off := 2) Tryz.underlying74 rfl rfl Tryz.sizeOf3 rfl rfl rfl ?_)))))))
  refine WL.loadR Tryz.isAgg3 rfl M Has.a rfl rfl (WL.gtr rfl rfl rfl (WL.nil (WX.next (W.sub [(0, _), (19, _)] (.cons rfl (.cons rfl .nil)) (W.ite rfl (fun c2 => ?_) (fun c2 => ?_))))))
  ·refine W.region (WL.move rfl rfl (WL.nilCheck rfl rfl (WL.fieldR (off := 2) Tryz.underlying74 rfl rfl Tryz.sizeOf3 rfl rfl rfl ?_)))
   refine WL.loadR Tryz.isAgg3 rfl M Has.a rfl rfl (WL.sub' rfl rfl (show IntKind.i64.wrap (lf - 1) = lf - 1 from wI64 (by omega)) rfl ?_)
   refine WL.nilCheck rfl rfl (WL.fieldR (off := 2) Tryz.underlying74 rfl rfl Tryz.sizeOf3 rfl rfl rfl ?_)
   refine WL.storeR Tryz.sizeOf3 rfl rfl rfl M Has.a (by repeat (first | exact SetAt.zero | apply SetAt.succ)) Upd.a ?_
   intro w M
   refine WL.nil (WX.next (W.sub [] .nil (W.seq (W.region (WL.assign rfl rfl (WL.nil (WX.next (W.sub [(2, _)] (.cons rfl .nil) (W.ret (WX.ret1 rfl rfl ?_))))))))))
   have ha : armed = true := by
    cases armed with
    | true => rfl
    | false => rw [hlf, hlI] at c2; simp at c2
   have e : Dk.act ⟨safe, waits, armed, left, down⟩ = (true, ⟨safe, waits, armed, left - 1, down⟩) := by unfold Dk.act; rw [if_neg (by rw [hdn]; simp), if_neg hno, if_pos ha]
   rw [e]
   have e2 : leftI ⟨safe, waits, armed, left - 1, down⟩ = lf - 1 := by rw [hlf, hlI]; unfold leftI; rw [if_pos ha, if_pos ha]; dsimp only; omega
   dsimp only
   rw [e2, hdn]
   exact ⟨rfl, M.sel Sel.a⟩
  ·refine W.skip (WX.next (W.seq (W.region (WL.assign rfl rfl (WL.nil (WX.next (W.sub [(2, _)] (.cons rfl .nil) (W.ret (WX.ret1 rfl rfl ?_)))))))))
   have ha : armed = false := by
    cases armed with
    | true => rw [hlf, hlI] at c2 hne; simp at c2 hne; omega
    | false => rfl
   have e : Dk.act ⟨safe, waits, armed, left, down⟩ = (true, ⟨safe, waits, armed, left, down⟩) := by unfold Dk.act; rw [if_neg (by rw [hdn]; simp), if_neg hno, if_neg (by rw [ha]; simp)]
   rw [e]
   dsimp only
   rw [← hlf, hdn]
   exact ⟨rfl, M.sel Sel.a⟩
theorem leftI_to (d : Dk) {s : List Sec} {q : List (Nat × Sec)} : leftI ⟨s, q, d.armed, d.act.2.left, d.act.2.down⟩ = leftI d.act.2 := by
 have : d.act.2.armed = d.armed := by rw [d.act_eq]
 unfold leftI
 dsimp only
 rw [this]
set_option maxRecDepth 10000 in
theorem refWrite_ok (hx : x.d.ok) (at_ : Nat) (hat : at_ < x.d.safe.length) (s : Sec) (A : Option Addr) (cap : Nat) (M : Mem w0 w L) (hd : Del x.O L L') (hb : RdH w0 L' A cap s.l) :
 Fn Tryz.prog 98 [.pointer (some ⟨x.g, 0, none⟩), .int .i64 (at_ : Int), .slice A 32 cap] w fun v w' => v = .int .i64 ((x.d.write at_ s).1 : Int) ∧ ∃ x' : RdX, x'.g = x.g ∧ x'.d = (x.d.write at_ s).2 ∧ Mem w0 w' (x'.O :: L') := by
 have hxl := hx.len
 have hfew := hx.few
 have hlf := hx.left
 obtain ⟨g, As, cs, Aw, cw, d⟩ := x
 dsimp only at *
 have M1 : Mem w0 w (rdRow g As d.safe.length cs Aw d.waits.length cw (leftI d) d.down :: Asr.lst secSE As cs d.safe :: Asr.lst rputE Aw cw d.waits :: L') := (M.del hd).unstar3
 clear M
 have M := M1
 refine Fn.enter Tryz.func98 rfl Tryz.ntmps98 rfl (W.sub [(0, _), (1, _), (2, _)] (.cons rfl (.cons rfl (.cons rfl .nil))) (W.seq (W.region (WL.assign rfl rfl (WL.nil (WX.next (W.sub [(0, _), (1, _), (2, _)] (.cons rfl (.cons rfl (.cons rfl .nil))) (W.seq (W.seq (W.region (WL.move rfl rfl (WL.nilCheck rfl rfl (WL.fieldR (off := 3) Tryz.underlying74 rfl rfl Tryz.sizeOf4 rfl rfl rfl ?_)))))))))))))
 refine WL.loadR Tryz.isAgg4 rfl M Has.a rfl rfl (WL.nil (WX.next (W.sub [(0, _), (1, _), (2, _), (11, _)] (.cons rfl (.cons rfl (.cons rfl (.cons rfl .nil)))) (W.cond rfl (fun c0 => ?_) (fun c0 => ?_)))))
 ·(try simp only [Bool.not_eq_true'] at c0); (try simp only [Bool.not_eq_false'] at c0); (try simp only [decide_eq_true_eq] at c0); (try simp only [decide_eq_false_iff_not] at c0)
  refine W.seq (W.region (WL.assign rfl rfl (WL.nil (WX.next (W.sub [(6, _)] (.cons rfl .nil) (W.ret (WX.thenRet (WX.ret1 rfl rfl ?_))))))))
  have e : d.act = (false, d) := by unfold Dk.act; rw [if_pos c0]
  have e2 : d.write at_ s = (6, d) := by unfold Dk.write; rw [e]; rfl
  rw [e2]
  exact ⟨rfl, ⟨g, As, cs, Aw, cw, d⟩, rfl, rfl, Mem.star3 (M.sel Sel.a)⟩
 ·(try simp only [Bool.not_eq_true'] at c0); (try simp only [Bool.not_eq_false'] at c0); (try simp only [decide_eq_true_eq] at c0); (try simp only [decide_eq_false_iff_not] at c0)
  refine W.skip (WX.next (W.seq (W.seq (W.region (WL.move rfl rfl (WL.lss rfl rfl rfl (WL.moveIf rfl rfl (fun c1 => ?_) (fun c1 => ?_))))))))
  ·exact absurd c1 (by omega)
  ·refine WL.on rfl rfl (WL.move rfl rfl (WL.on rfl rfl (WL.move rfl rfl (WL.on rfl rfl (WL.nilCheck rfl rfl (WL.on rfl rfl (WL.fieldR (off := 0) Tryz.underlying74 rfl rfl Tryz.sizeOf71 rfl rfl rfl ?_)))))))
   refine WL.on rfl rfl (WL.loadR Tryz.isAgg71 rfl M Has.a rfl rfl (WL.on rfl rfl (WL.len Tryz.underlying71 rfl rfl (WL.on rfl rfl (WL.geq rfl rfl rfl (WL.pickF rfl rfl rfl (WL.moveIf rfl rfl (fun c2 => ?_) (fun c2 => ?_))))))))
   ·exact absurd c2 (by omega)
   ·refine WL.on rfl rfl (WL.move rfl rfl (WL.on rfl rfl (WL.len Tryz.underlying84 rfl rfl (WL.on rfl rfl (WL.neI rfl rfl rfl (WL.pickF rfl rfl rfl (WL.nil (WX.next (W.sub [(0, _), (1, _), (2, _), (27, _)] (.cons rfl (.cons rfl (.cons rfl (.cons rfl .nil)))) (W.ite rfl (fun c3 => ?_) (fun c3 => ?_)))))))))))
    ·exact absurd c3 (by omega)
    ·refine W.skip (WX.next (W.seq (W.region (WL.move rfl rfl (WL.call Tryz.call124 rfl (refAct_ok w0 w _ _ d hlf M Del.a) rfl ?_)))))
     rintro _ w ⟨rfl, M⟩
     refine WL.assign rfl rfl (WL.nil (WX.next (W.sub [(0, _), (1, _), (2, _), (7, _)] (.cons rfl (.cons rfl (.cons rfl (.cons rfl .nil)))) (W.seq (W.seq (W.region (WL.move rfl rfl (WL.not rfl rfl (WL.nil (WX.next (W.sub [(0, _), (1, _), (2, _), (31, _)] (.cons rfl (.cons rfl (.cons rfl (.cons rfl .nil)))) (W.cond rfl (fun c4 => ?_) (fun c4 => ?_)))))))))))))
     ·(try simp only [Bool.not_eq_true'] at c4); (try simp only [Bool.not_eq_false'] at c4); (try simp only [decide_eq_true_eq] at c4); (try simp only [decide_eq_false_iff_not] at c4)
      refine W.seq (W.region (WL.assign rfl rfl (WL.nil (WX.next (W.sub [(6, _)] (.cons rfl .nil) (W.ret (WX.thenRet (WX.ret1 rfl rfl ?_))))))))
      have e2 : d.write at_ s = (6, d.act.2) := by unfold Dk.write; rw [if_neg (by simpa using c4)]
      rw [e2]
      refine ⟨rfl, ⟨g, As, cs, Aw, cw, d.act.2⟩, rfl, rfl, ?_⟩
      have q1 := d.act_safe
      have q2 := d.act_waits
      unfold RdX.O
      dsimp only
      rw [q1, q2]
      exact Mem.star3 (M.sel Sel.a)
     ·(try simp only [Bool.not_eq_true'] at c4); (try simp only [Bool.not_eq_false'] at c4); (try simp only [decide_eq_true_eq] at c4); (try simp only [decide_eq_false_iff_not] at c4)
      have hup : d.act.1 = true := by simpa using c4
      refine W.skip (WX.next (W.seq (W.drawM ([rdRow g As d.safe.length cs Aw d.waits.length cw (leftI d.act.2) d.act.2.down] ++ L') (by kernel_rfl) (fun j => [4, 7, 8, 9].contains j) M Sel.a ?_)))
      clear M; intro M
      apply DG.pure_ [0, 1, 2, 3, 5, 6] 8 rfl (by kernel_rfl) (by kernel_rfl)
      ·intro w
       refine WL.move rfl rfl (WL.move rfl rfl (WL.nilCheck rfl rfl (WL.fieldR (off := 1) Tryz.underlying74 rfl rfl Tryz.sizeOf72 rfl rfl rfl ?_)))
       refine WL.move rfl rfl (WL.move rfl rfl ?_)
       exact Chain.end_ rfl
      apply DG.take [4, 7, 8] 5 rfl (by kernel_rfl) (by kernel_rfl) (M.sel Sel.a)
      ·intro w M
       refine WL.loadR Tryz.isAgg72 rfl M Has.a rfl rfl (WL.toStr (l := s.l) Tryz.underlying84 Tryz.underlying5 Tryz.underlying9 rfl (hb.at (M.sel Sel.a)) (by rw [s.h]) rfl ?_)
       refine WL.buildP (places := #[(0, 1), (1, 1)]) Tryz.underlying115 Tryz.zeroValue115 (fun _ => by simp [Tryz.sizeOf3, Tryz.sizeOf9]) rfl (by repeat (first | exact Puts.nil | exact SetAt.zero | apply SetAt.succ | apply Puts.cons rfl rfl)) rfl ?_
       exact Chain.end_ rfl
      refine DG.step 9 4 rfl (by kernel_rfl) ?_
      refine WL.buildL (E := rputE) (l := [(at_, s)]) Tryz.elem115 M rfl rfl rfl rfl rfl rfl ?_
      intro g8_9 w M
      refine DG.go (G := fun j => [4, 7, 8, 9].contains j) (i := 9) (f' := 4) (done := [0, 1, 2, 3, 5, 6, 4, 7, 8]) (fun _ => M.sel Sel.a) ?_
      refine DG.step 10 3 rfl (by kernel_rfl) ?_
      refine WL.appendL (E := rputE) Tryz.elem115 rfl rfl M Del.a (by first | with_reducible assumption | with_reducible exact RdL.mem (by with_reducible assumption) M | exact M.rdL Has.a | exact RdLH.at (by assumption) (M.sel Sel.a) | exact RdL.nil _ _ _) rfl rfl (by first | omega | (simp; done) | (simp; omega)) (by first | (simp only [maxLen]; omega) | (simp [maxLen]; done) | (simp [maxLen]; omega)) rfl ?_
      intro A8_10 cap8_10 w M
      refine DG.go (G := fun j => [4, 7, 8, 9].contains j) (i := 10) (f' := 3) (done := [0, 1, 2, 3, 5, 6, 4, 7, 8, 9]) (fun h => by cases h) ?_
      apply DG.pure_ [11, 12] 1 rfl (by kernel_rfl) (by kernel_rfl)
      ·intro w
       refine WL.nilCheck rfl rfl (WL.fieldR (off := 1) Tryz.underlying74 rfl rfl Tryz.sizeOf72 rfl rfl rfl ?_)
       exact Chain.end_ rfl
      refine DG.step 13 0 rfl (by kernel_rfl) ?_
      refine WL.storeR Tryz.sizeOf72 rfl rfl rfl M Has.a (by repeat (first | exact SetAt.zero | apply SetAt.succ)) Upd.a ?_
      intro w M
      refine DG.go (G := fun j => [4, 7, 8, 9].contains j) (i := 13) (f' := 0) (done := [0, 1, 2, 3, 5, 6, 4, 7, 8, 9, 10, 11, 12]) (fun h => by cases h) ?_
      refine DG.end_ (by kernel_rfl) ?_
      refine WX.next (W.sub [] .nil (W.seq (W.region (WL.assign rfl rfl (WL.nil (WX.next (W.sub [(6, _)] (.cons rfl .nil) (W.ret (WX.ret1 rfl rfl ?_)))))))))
      have e2 : d.write at_ s = (0, { d.act.2 with waits := d.waits ++ [(at_, s)] }) := by unfold Dk.write; rw [if_pos hup]
      rw [e2]
      refine ⟨rfl, ⟨g, As, cs, A8_10, cap8_10, { d.act.2 with waits := d.waits ++ [(at_, s)] }⟩, rfl, rfl, ?_⟩
      have e3 : ({ d.act.2 with waits := d.waits ++ [(at_, s)] } : Dk) = ⟨d.safe, d.waits ++ [(at_, s)], d.armed, d.act.2.left, d.act.2.down⟩ := by rw [d.act_eq]
      rw [e3]
      unfold RdX.O
      dsimp only
      rw [leftI_to]
      exact Mem.star3 (M.sel Sel.a)
theorem refArm_ok (n : Nat) (hn : n ≤ 1000000) (M : Mem w0 w L) (hd : Del x.O L L') : Fn Tryz.prog 11 [.pointer (some ⟨x.g, 0, none⟩), .int .i64 (n : Int)] w fun _ w' => Mem w0 w' ({ x with d := { x.d with armed := true, left := n } }.O :: L') := by
 have M1 := (M.del hd).unstar3
 clear M
 have M := M1
 refine Fn.enter Tryz.func11 rfl Tryz.ntmps11 rfl (W.sub [(0, _), (1, _)] (.cons rfl (.cons rfl .nil)) (W.seq (W.region (WL.move rfl rfl (WL.move rfl rfl (WL.nilCheck rfl rfl (WL.fieldR (off := 2) Tryz.underlying74 rfl rfl Tryz.sizeOf3 rfl rfl rfl ?_)))))))
 refine WL.storeR Tryz.sizeOf3 rfl rfl rfl M Has.a (by repeat (first | exact SetAt.zero | apply SetAt.succ)) Upd.a ?_
 intro w M
 refine WL.nil (WX.next (W.sub [(0, _), (1, _)] (.cons rfl (.cons rfl .nil)) (W.seq (W.region (WL.move rfl rfl (WL.lss rfl rfl rfl (WL.nil (WX.next (W.sub [(0, _), (9, _)] (.cons rfl (.cons rfl .nil)) (W.ite rfl (fun c0 => ?_) (fun c0 => ?_)))))))))))
 ·exact absurd c0 (by omega)
 ·refine W.skip (WX.end0 rfl ?_)
  exact Mem.star3 (M.sel Sel.a)
set_option maxRecDepth 10000 in
theorem refSync_ok (hx : x.d.ok) (M : Mem w0 w L) (hd : Del x.O L L') : Fn Tryz.prog 99 [.pointer (some ⟨x.g, 0, none⟩)] w fun v w' => v = .int .i64 (x.d.sync.1 : Int) ∧ ∃ x' : RdX, x'.g = x.g ∧ x'.d = x.d.sync.2 ∧ Mem w0 w' (x'.O :: L') := by
 have hxl := hx.len
 have hfew := hx.few
 have hat := hx.at_
 have hlf := hx.left
 obtain ⟨g, As, cs, Aw, cw, d⟩ := x
 dsimp only at *
 have M1 : Mem w0 w (rdRow g As d.safe.length cs Aw d.waits.length cw (leftI d) d.down :: Asr.lst secSE As cs d.safe :: Asr.lst rputE Aw cw d.waits :: L') := (M.del hd).unstar3
 clear M
 have M := M1
 refine Fn.enter Tryz.func99 rfl Tryz.ntmps99 rfl (W.sub [(0, _)] (.cons rfl .nil) (W.seq (W.region (WL.assign rfl rfl (WL.nil (WX.next (W.sub [(0, _)] (.cons rfl .nil) (W.seq (W.region (WL.move rfl rfl (WL.call Tryz.call124 rfl (refAct_ok w0 w _ _ d hlf M Del.a) rfl ?_)))))))))))
 rintro _ w ⟨rfl, M⟩
 refine WL.assign rfl rfl (WL.nil (WX.next (W.sub [(0, _), (3, _)] (.cons rfl (.cons rfl .nil)) (W.seq (W.seq (W.region (WL.move rfl rfl (WL.not rfl rfl (WL.nil (WX.next (W.sub [(0, _), (8, _)] (.cons rfl (.cons rfl .nil)) (W.cond rfl (fun c0 => ?_) (fun c0 => ?_)))))))))))))
 ·(try simp only [Bool.not_eq_true'] at c0); (try simp only [Bool.not_eq_false'] at c0); (try simp only [decide_eq_true_eq] at c0); (try simp only [decide_eq_false_iff_not] at c0)
  refine W.seq (W.region (WL.assign rfl rfl (WL.nil (WX.next (W.sub [(2, _)] (.cons rfl .nil) (W.ret (WX.thenRet (WX.ret1 rfl rfl ?_))))))))
  have e2 : d.sync = (6, d.act.2) := by unfold Dk.sync; rw [if_neg (by simpa using c0)]
  rw [e2]
  refine ⟨rfl, ⟨g, As, cs, Aw, cw, d.act.2⟩, rfl, rfl, ?_⟩
  have q1 := d.act_safe
  have q2 := d.act_waits
  unfold RdX.O
  dsimp only
  rw [q1, q2]
  exact Mem.star3 (M.sel Sel.a)
 ·(try simp only [Bool.not_eq_true'] at c0); (try simp only [Bool.not_eq_false'] at c0); (try simp only [decide_eq_true_eq] at c0); (try simp only [decide_eq_false_iff_not] at c0)
  have hup : d.act.1 = true := by simpa using c0
  refine W.skip (WX.next (W.seq (W.seq (W.region (WL.assign rfl rfl (WL.nil (WX.next (W.sub [(0, _), (4, _)] (.cons rfl (.cons rfl .nil)) (W.block (W.loop (ι := Nat) (fun i => [(0, .pointer (some ⟨g, 0, none⟩)), (4, .int .i64 (i : Int))]) (fun zz w => Mem w0 w ((fun i => rdRow g As d.safe.length cs Aw d.waits.length cw (leftI d.act.2) d.act.2.down :: Asr.lst secSE As cs (nowS d.safe (d.waits.take i)) :: Asr.lst rputE Aw cw d.waits :: L') zz) ∧ (fun i => i ≤ d.waits.length) zz) (fun i => d.waits.length - i) (0) envSub.sf ⟨M.sel Sel.a, Nat.zero_le _⟩ ?_))))))))))
  clear M; rintro (i) w ⟨M, hi⟩; dsimp only at M hi ⊢
  refine W.sub [(0, _), (4, _)] (.cons rfl (.cons rfl .nil)) (W.seq (W.seq (W.region (WL.move rfl rfl (WL.move rfl rfl (WL.nilCheck rfl rfl (WL.fieldR (off := 1) Tryz.underlying74 rfl rfl Tryz.sizeOf72 rfl rfl rfl ?_)))))))
  refine WL.loadR Tryz.isAgg72 rfl M Has.a rfl rfl (WL.len Tryz.underlying72 rfl rfl (WL.lss rfl rfl rfl (WL.nil (WX.next (W.sub [(0, _), (4, _), (15, _)] (.cons rfl (.cons rfl (.cons rfl .nil))) (W.ite rfl (fun c1 => ?_) (fun c1 => ?_)))))))
  ·have hil : i < d.waits.length := by omega
   have hai := hat _ (el_mem hil)
   have hnl := nowS_length (d.waits.take i) d.safe
   refine W.skip (WX.next (W.seq (W.block (W.drawM ([rdRow g As d.safe.length cs Aw d.waits.length cw (leftI d.act.2) d.act.2.down, Asr.lst rputE Aw cw d.waits, Asr.lst secSE As cs (nowS d.safe (d.waits.take i))]) (by kernel_rfl) (fun j => [3, 7, 9, 10, 11, 15, 17, 18, 19].contains j) M Sel.a ?_))))
   clear M; intro M
   apply DG.pure_ [0, 1, 2, 4, 5, 6, 8, 12, 13, 14, 16] 11 rfl (by kernel_rfl) (by kernel_rfl)
   ·intro w
    refine WL.move rfl rfl (WL.nilCheck rfl rfl (WL.fieldR (off := 0) Tryz.underlying74 rfl rfl Tryz.sizeOf71 rfl rfl rfl ?_))
    refine WL.move rfl rfl (WL.nilCheck rfl rfl (WL.fieldR (off := 1) Tryz.underlying74 rfl rfl Tryz.sizeOf72 rfl rfl rfl ?_))
    refine WL.move rfl rfl (WL.move rfl rfl (WL.nilCheck rfl rfl (WL.fieldR (off := 1) Tryz.underlying74 rfl rfl Tryz.sizeOf72 rfl rfl rfl ?_)))
    refine WL.move rfl rfl ?_
    exact Chain.end_ rfl
   apply DG.take [3, 7, 9, 10, 11, 15, 17, 18, 19, 20] 1 rfl (by kernel_rfl) (by kernel_rfl) (M.sel Sel.a)
   ·intro w M
    refine WL.loadR Tryz.isAgg71 rfl M Has.a rfl rfl (WL.loadR Tryz.isAgg72 rfl M Has.a rfl rfl (WL.idxA Tryz.underlying72 Tryz.sizeOf115 rfl rfl (RdL.isSome (E := rputE) (by first | with_reducible assumption | with_reducible exact RdL.mem (by with_reducible assumption) M | exact M.rdL Has.a | exact RdLH.at (by assumption) (M.sel Sel.a) | exact RdL.nil _ _ _) (by omega)) (by omega) (by omega) (by first | exact rfl | exact (Int.toNat_of_nonneg (by omega)).symm) rfl ?_))
    refine WL.fieldA (off := 0) Tryz.underlying115 rfl rfl Tryz.sizeOf3 rfl rfl rfl ?_
    refine WL.loadE (E := rputE) Tryz.isAgg3 rfl (by first | with_reducible assumption | with_reducible exact RdL.mem (by with_reducible assumption) M | exact M.rdL Has.a | exact RdLH.at (by assumption) (M.sel Sel.a) | exact RdL.nil _ _ _) (by omega) rfl rfl ?_
    refine WL.loadR Tryz.isAgg72 rfl M Has.a rfl rfl (WL.idxA Tryz.underlying72 Tryz.sizeOf115 rfl rfl (RdL.isSome (E := rputE) (by first | with_reducible assumption | with_reducible exact RdL.mem (by with_reducible assumption) M | exact M.rdL Has.a | exact RdLH.at (by assumption) (M.sel Sel.a) | exact RdL.nil _ _ _) (by omega)) (by omega) (by omega) (by first | exact rfl | exact (Int.toNat_of_nonneg (by omega)).symm) rfl ?_)
    refine WL.fieldA (off := 1) Tryz.underlying115 rfl rfl Tryz.sizeOf9 rfl rfl rfl ?_
    refine WL.loadE (E := rputE) Tryz.isAgg9 rfl (by first | with_reducible assumption | with_reducible exact RdL.mem (by with_reducible assumption) M | exact M.rdL Has.a | exact RdLH.at (by assumption) (M.sel Sel.a) | exact RdL.nil _ _ _) (by omega) rfl rfl ?_
    refine WL.idxA Tryz.underlying71 Tryz.sizeOf9 rfl rfl (RdL.isSome (E := secSE) (M.rdL (l := nowS d.safe (d.waits.take i)) Has.a) (by omega)) (by omega) (by omega) (by first | exact rfl | exact (Int.toNat_of_nonneg (by omega)).symm) rfl ?_
    exact Chain.end_ rfl
   refine DG.step 21 0 rfl (by kernel_rfl) ?_
   refine WL.storeE0 (E := secSE) (x' := (el d.waits i).2) Tryz.sizeOf9 rfl rfl rfl M Has.a (by omega) (by repeat (first | exact SetAt.zero | apply SetAt.succ)) Upd.a ?_
   intro w M
   refine DG.go (G := fun j => [3, 7, 9, 10, 11, 15, 17, 18, 19].contains j) (i := 21) (f' := 0) (done := [0, 1, 2, 4, 5, 6, 8, 12, 13, 14, 16, 3, 7, 9, 10, 11, 15, 17, 18, 19, 20]) (fun h => by cases h) ?_
   refine DG.end_ (by kernel_rfl) ?_
   refine WX.blockNormal (WX.next (W.sub [(0, _), (4, _)] (.cons rfl (.cons rfl .nil)) (W.region (WL.move rfl rfl (WL.add rfl rfl (by first | exact wI64 (by omega) | rfl) rfl ?_)))))
   refine WL.assign rfl rfl (WL.nil ?_)
   skip
   have q : nowS d.safe (d.waits.take (i + 1)) = (nowS d.safe (d.waits.take i)).set (el d.waits i).1 (el d.waits i).2 := by
    rw [List.take_succ_eq_append_getElem hil, nowS_snoc]
    rw [show d.waits[i] = el d.waits i by simp [el, hil]]
   rw [← q] at M
   refine WX.round (i + 1) envSub.sf ⟨M.sel Sel.a, (by omega)⟩ (by first | omega | (dsimp only; omega))
  ·obtain rfl : i = d.waits.length := by omega
   rw [List.take_length] at M
   refine W.exit (WX.thenExit (WX.thenExit (WX.blockHere (WX.next (W.seq (W.region (WL.move rfl rfl (WL.nilCheck rfl rfl (WL.fieldR (off := 1) Tryz.underlying74 rfl rfl Tryz.sizeOf72 rfl rfl rfl ?_)))))))))
   refine WL.storeR Tryz.sizeOf72 rfl rfl rfl M Has.a (by repeat (first | exact SetAt.zero | apply SetAt.succ)) Upd.a ?_
   intro w M
   refine WL.nil (WX.next (W.sub [] .nil (W.seq (W.region (WL.assign rfl rfl (WL.nil (WX.next (W.sub [(2, _)] (.cons rfl .nil) (W.ret (WX.ret1 rfl rfl ?_))))))))))
   have e2 : d.sync = (0, { d.act.2 with safe := d.now, waits := [] }) := by unfold Dk.sync; rw [if_pos hup]
   rw [e2]
   replace M := M.nilOwn 115 2
   refine ⟨rfl, ⟨g, As, cs, none, 0, { d.act.2 with safe := d.now, waits := [] }⟩, rfl, rfl, ?_⟩
   have e3 : ({ d.act.2 with safe := d.now, waits := [] } : Dk) = ⟨d.now, [], d.armed, d.act.2.left, d.act.2.down⟩ := by rw [d.act_eq]
   rw [e3]
   unfold RdX.O
   dsimp only
   rw [leftI_to, d.now_length]
   exact Mem.star3 (M.sel Sel.a)
set_option maxRecDepth 10000 in
theorem refRead_ok (hx : x.d.ok) (hdn : x.d.down = false) (at_ : Nat) (hat : at_ < x.d.safe.length) (M : Mem w0 w L) (hd : Del x.O L L') : Fn Tryz.prog 92 [.pointer (some ⟨x.g, 0, none⟩), .int .i64 (at_ : Int)] w fun v w' => ∃ g' sp cap, 32 ≤ cap ∧ v = .tuple #[.slice (some ⟨g', 0, none⟩) 32 cap, .int .i64 0] ∧
 Mem w0 w' (Asr.strB g' 5 (el x.d.now at_).l sp :: x.O :: L') := by
 have hxl := hx.len
 have hfew := hx.few
 have hatw := hx.at_
 obtain ⟨g, As, cs, Aw, cw, d⟩ := x
 dsimp only at *
 have M1 : Mem w0 w (rdRow g As d.safe.length cs Aw d.waits.length cw (leftI d) d.down :: Asr.lst secSE As cs d.safe :: Asr.lst rputE Aw cw d.waits :: L') := (M.del hd).unstar3
 clear M
 have M := M1
 refine Fn.enter Tryz.func92 rfl Tryz.ntmps92 rfl (W.sub [(0, _), (1, _)] (.cons rfl (.cons rfl .nil)) (W.seq (W.region (WL.assign rfl rfl (WL.assign rfl rfl (WL.nil (WX.next (W.sub [(0, _), (1, _)] (.cons rfl (.cons rfl .nil)) (W.seq (W.block (W.seq (W.region (WL.move rfl rfl (WL.nilCheck rfl rfl (WL.fieldR (off := 3) Tryz.underlying74 rfl rfl Tryz.sizeOf4 rfl rfl rfl ?_)))))))))))))))
 refine WL.loadR Tryz.isAgg4 rfl M Has.a rfl rfl (WL.assign rfl rfl (WL.nil (WX.next (W.sub [(0, _), (1, _), (8, _)] (.cons rfl (.cons rfl (.cons rfl .nil))) (W.cond rfl (fun c0 => ?_) (fun c0 => ?_))))))
 ·(try simp only [Bool.not_eq_true'] at c0); (try simp only [Bool.not_eq_false'] at c0); (try simp only [decide_eq_true_eq] at c0); (try simp only [decide_eq_false_iff_not] at c0)
  exact absurd c0 (by rw [hdn]; simp)
 ·(try simp only [Bool.not_eq_true'] at c0); (try simp only [Bool.not_eq_false'] at c0); (try simp only [decide_eq_true_eq] at c0); (try simp only [decide_eq_false_iff_not] at c0)
  refine W.seq (W.region (WL.move rfl rfl (WL.lss rfl rfl rfl (WL.moveIf rfl rfl (fun c1 => ?_) (fun c1 => ?_)))))
  ·exact absurd c1 (by omega)
  ·refine WL.on rfl rfl (WL.move rfl rfl (WL.on rfl rfl (WL.move rfl rfl (WL.on rfl rfl (WL.nilCheck rfl rfl (WL.on rfl rfl (WL.fieldR (off := 0) Tryz.underlying74 rfl rfl Tryz.sizeOf71 rfl rfl rfl ?_)))))))
   refine WL.on rfl rfl (WL.loadR Tryz.isAgg71 rfl M Has.a rfl rfl (WL.on rfl rfl (WL.len Tryz.underlying71 rfl rfl (WL.on rfl rfl (WL.geq rfl rfl rfl (WL.pickF rfl rfl rfl (WL.assign rfl rfl (WL.nil (WX.next (W.sub [(0, _), (1, _), (13, _)] (.cons rfl (.cons rfl (.cons rfl .nil))) (W.ite rfl (fun c2 => ?_) (fun c2 => ?_))))))))))))
   ·exact absurd c2 (by omega)
   ·refine W.skip (WX.blockNormal (WX.next (W.seq (W.region (WL.move rfl rfl (WL.nilCheck rfl rfl (WL.fieldR (off := 0) Tryz.underlying74 rfl rfl Tryz.sizeOf71 rfl rfl rfl ?_)))))))
    refine WL.loadR Tryz.isAgg71 rfl M Has.a rfl rfl (WL.move rfl rfl (WL.idxA Tryz.underlying71 Tryz.sizeOf9 rfl rfl (RdL.isSome (E := secSE) (by first | with_reducible assumption | with_reducible exact RdL.mem (by with_reducible assumption) M | exact M.rdL Has.a | exact RdLH.at (by assumption) (M.sel Sel.a) | exact RdL.nil _ _ _) (by omega)) (by omega) (by omega) (by first | exact rfl | exact (Int.toNat_of_nonneg (by omega)).symm) rfl ?_))
    refine WL.loadE0 (E := secSE) Tryz.isAgg9 rfl (by first | with_reducible assumption | with_reducible exact RdL.mem (by with_reducible assumption) M | exact M.rdL Has.a | exact RdLH.at (by assumption) (M.sel Sel.a) | exact RdL.nil _ _ _) (by omega) rfl rfl ?_
    refine WL.assign rfl rfl (WL.nil (WX.next (W.sub [(0, _), (1, _), (6, _)] (.cons rfl (.cons rfl (.cons rfl .nil))) (W.seq (W.seq (W.region (WL.assign rfl rfl (WL.nil (WX.next (W.sub [(0, _), (1, _), (6, _), (7, _)] (.cons rfl (.cons rfl (.cons rfl (.cons rfl .nil)))) (W.block (W.loop (ι := Nat) (fun i => [(0, .pointer (some ⟨g, 0, none⟩)), (1, .int .i64 (at_ : Int)), (6, str (el (nowS d.safe (d.waits.take i)) at_).l), (7, .int .i64 (i : Int))]) (fun zz w => Mem w0 w ((fun i => rdRow g As d.safe.length cs Aw d.waits.length cw (leftI d) d.down :: Asr.lst secSE As cs d.safe :: Asr.lst rputE Aw cw d.waits :: L') zz) ∧ (fun i => i ≤ d.waits.length) zz) (fun i => d.waits.length - i) (0) envSub.sf ⟨M.sel Sel.a, Nat.zero_le _⟩ ?_))))))))))))
    clear M; rintro (i) w ⟨M, hi⟩; dsimp only at M hi ⊢
    refine W.sub [(0, _), (1, _), (6, _), (7, _)] (.cons rfl (.cons rfl (.cons rfl (.cons rfl .nil)))) (W.seq (W.seq (W.region (WL.move rfl rfl (WL.move rfl rfl (WL.nilCheck rfl rfl (WL.fieldR (off := 1) Tryz.underlying74 rfl rfl Tryz.sizeOf72 rfl rfl rfl ?_)))))))
    refine WL.loadR Tryz.isAgg72 rfl M Has.a rfl rfl (WL.len Tryz.underlying72 rfl rfl (WL.lss rfl rfl rfl (WL.nil (WX.next (W.sub [(0, _), (1, _), (6, _), (7, _), (38, _)] (.cons rfl (.cons rfl (.cons rfl (.cons rfl (.cons rfl .nil))))) (W.ite rfl (fun c3 => ?_) (fun c3 => ?_)))))))
    ·have hil : i < d.waits.length := by omega
     have hnl := nowS_length (d.waits.take i) d.safe
     have q : nowS d.safe (d.waits.take (i + 1)) = (nowS d.safe (d.waits.take i)).set (el d.waits i).1 (el d.waits i).2 := by
      rw [List.take_succ_eq_append_getElem hil, nowS_snoc]
      rw [show d.waits[i] = el d.waits i by simp [el, hil]]
     refine W.skip (WX.next (W.seq (W.block (W.seq (W.region (WL.move rfl rfl (WL.nilCheck rfl rfl (WL.fieldR (off := 1) Tryz.underlying74 rfl rfl Tryz.sizeOf72 rfl rfl rfl ?_))))))))
     refine WL.loadR Tryz.isAgg72 rfl M Has.a rfl rfl (WL.move rfl rfl (WL.idxA Tryz.underlying72 Tryz.sizeOf115 rfl rfl (RdL.isSome (E := rputE) (by first | with_reducible assumption | with_reducible exact RdL.mem (by with_reducible assumption) M | exact M.rdL Has.a | exact RdLH.at (by assumption) (M.sel Sel.a) | exact RdL.nil _ _ _) (by omega)) (by omega) (by omega) (by first | exact rfl | exact (Int.toNat_of_nonneg (by omega)).symm) rfl ?_))
     refine WL.fieldA (off := 0) Tryz.underlying115 rfl rfl Tryz.sizeOf3 rfl rfl rfl ?_
     refine WL.loadE (E := rputE) Tryz.isAgg3 rfl (by first | with_reducible assumption | with_reducible exact RdL.mem (by with_reducible assumption) M | exact M.rdL Has.a | exact RdLH.at (by assumption) (M.sel Sel.a) | exact RdL.nil _ _ _) (by omega) rfl rfl ?_
     refine WL.move rfl rfl (WL.eqI rfl rfl rfl (WL.nil (WX.next (W.sub [(0, _), (1, _), (6, _), (7, _), (50, _)] (.cons rfl (.cons rfl (.cons rfl (.cons rfl (.cons rfl .nil))))) (W.ite rfl (fun c4 => ?_) (fun c4 => ?_))))))
     ·refine W.region (WL.move rfl rfl (WL.nilCheck rfl rfl (WL.fieldR (off := 1) Tryz.underlying74 rfl rfl Tryz.sizeOf72 rfl rfl rfl ?_)))
      refine WL.loadR Tryz.isAgg72 rfl M Has.a rfl rfl (WL.move rfl rfl (WL.idxA Tryz.underlying72 Tryz.sizeOf115 rfl rfl (RdL.isSome (E := rputE) (by first | with_reducible assumption | with_reducible exact RdL.mem (by with_reducible assumption) M | exact M.rdL Has.a | exact RdLH.at (by assumption) (M.sel Sel.a) | exact RdL.nil _ _ _) (by omega)) (by omega) (by omega) (by first | exact rfl | exact (Int.toNat_of_nonneg (by omega)).symm) rfl ?_))
      refine WL.fieldA (off := 1) Tryz.underlying115 rfl rfl Tryz.sizeOf9 rfl rfl rfl ?_
      refine WL.loadE (E := rputE) Tryz.isAgg9 rfl (by first | with_reducible assumption | with_reducible exact RdL.mem (by with_reducible assumption) M | exact M.rdL Has.a | exact RdLH.at (by assumption) (M.sel Sel.a) | exact RdL.nil _ _ _) (by omega) rfl rfl ?_
      refine WL.assign rfl rfl (WL.nil (WX.blockNormal (WX.next (W.sub [(0, _), (1, _), (6, _), (7, _)] (.cons rfl (.cons rfl (.cons rfl (.cons rfl .nil)))) (W.region (WL.move rfl rfl (WL.add rfl rfl (by first | exact wI64 (by omega) | rfl) rfl ?_)))))))
      refine WL.assign rfl rfl (WL.nil ?_)
      skip
      have q2 : el (nowS d.safe (d.waits.take (i + 1))) at_ = (el d.waits i).2 := by
       rw [q, el_set _ _ _ _ (by omega), if_pos (by omega)]
      rw [← q2]
      refine WX.round (i + 1) envSub.sf ⟨M.sel Sel.a, (by omega)⟩ (by first | omega | (dsimp only; omega))
     ·refine W.skip (WX.blockNormal (WX.next (W.region (WL.move rfl rfl (WL.add rfl rfl (by first | exact wI64 (by omega) | rfl) rfl ?_)))))
      refine WL.assign rfl rfl (WL.nil ?_)
      skip
      have q2 : el (nowS d.safe (d.waits.take (i + 1))) at_ = el (nowS d.safe (d.waits.take i)) at_ := by
       rw [q, el_set _ _ _ _ (by have := hatw _ (el_mem hil); omega), if_neg (by omega)]
      rw [← q2]
      refine WX.round (i + 1) envSub.sf ⟨M.sel Sel.a, (by omega)⟩ (by first | omega | (dsimp only; omega))
    ·obtain rfl : i = d.waits.length := by omega
     rw [List.take_length]
     have hl32 := (el (nowS d.safe d.waits) at_).h
     refine W.exit (WX.thenExit (WX.thenExit (WX.blockHere (WX.next (W.seq (W.region (WL.move rfl rfl (WL.ofStrH Tryz.underlying9 Tryz.underlying84 Tryz.underlying5 rfl M rfl ?_))))))))
     intro g' sp cap w hcap M
     refine WL.assign rfl rfl (WL.assign rfl rfl (WL.nil (WX.next (W.sub [(4, _), (5, _)] (.cons rfl (.cons rfl .nil)) (W.ret (WX.ret2 rfl rfl rfl ?_))))))
     rw [hl32] at hcap ⊢
     refine ⟨g', sp, cap, hcap, rfl, ?_⟩
     have M2 := Mem.star3 (M.sel (K := rdRow g As d.safe.length cs Aw d.waits.length cw (leftI d) d.down :: Asr.lst secSE As cs d.safe :: Asr.lst rputE Aw cw d.waits :: Asr.strB g' 5 (el (nowS d.safe d.waits) at_).l sp :: L') Sel.a)
     exact M2.f1
end
end Go.Proofs.YtlminileigfkcaaGreat
