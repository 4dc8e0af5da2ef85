/-
  Rules: an array's value, an element of it; a result in one cell. Generic in the program.
-/
import Derived.Test.YtcmlehggfkjagaaWalk
namespace Go.Proofs.Ytcmlehggfkjagaa
open Go Go.RowKit

section
variable {P : Program} {n : Nat} {ρ : List (Nat × Value)} {w : World} {rest : List Oper} {X : SqV P n}
variable {d : Nat} {ty : TypeId} {pos : String} {aft : Array Edge} {x y : Operand} {t e : TypeId}
/-- An array's value. -/
theorem WL.buildArr {m size : Nat} {parts : Array (Nat × Operand)} {z : Value} {vs : List Value} {cells : Array Value} (ht : P.underlying t = some (.array m e)) (hz : ∀ w, (zeroValue t).run P w = .ok z w) (hs : ∀ w, (sizeOf e).run P w = .ok size w)
    (hx : evs ρ (parts.toList.map (·.2)) = some vs) (hf : Instr.fill (fun i => some (i * size, size)) z.cells ((parts.toList.map (·.1)).zip vs) = some cells) (hd : Nat.blt d n = true)
    (kk : X.S rest ((d, .agg cells) :: ρ) w) : X.S (⟨some d, .build t parts, ty, pos, aft, none⟩ :: rest) ρ w := by
  refine WL.val rfl rfl hd (fun a ha => ?_) kk
  have h1 : parts.toList.map (fun x => (x.1, a.eval x.2)) = (parts.toList.map (·.1)).zip vs := by
    have h2 := ha.evals hx
    rw [← h2]
    induction parts.toList with
    | nil => rfl
    | cons p ps ih => simp [ih]
  simp [execOp, Instr.build, hz, run_underlying ht, hs, h1, hf]
/-- An element of an array's value. -/
theorem WL.indexArr {m size i : Nat} {k : IntKind} {cs : Array Value} {v : Value} (ht : P.underlying t = some (.array m e)) (hs : ∀ w, (sizeOf e).run P w = .ok size w) (hx : ev ρ x = some (.agg cs)) (hy : ev ρ y = some (.int k (i : Int))) (hi : i < m)
    (hp : ∀ w, (part e cs (i * size)).run P w = .ok v w) (hd : Nat.blt d n = true) (kk : X.S rest ((d, v) :: ρ) w) : X.S (⟨some d, .index t x y, ty, pos, aft, none⟩ :: rest) ρ w :=
  WL.val rfl rfl hd (fun a ha => by
    have h1 : ¬ m ≤ i := by omega
    simp [execOp, ha.eval hx, ha.eval hy, Instr.index, run_underlying ht, asIntOf, hi, hs, hp]) kk
theorem part_cell {cs : Array Value} {o : Nat} {v : Value} (hA : ∀ w, (isAgg e).run P w = .ok false w) (hv : cs[o]? = some v) (w : World) : (part e cs o).run P w = .ok v w := by
  simp [part, hA, hv]
theorem part_agg {cs : Array Value} {o size : Nat} (hA : ∀ w, (isAgg e).run P w = .ok true w) (hs : ∀ w, (sizeOf e).run P w = .ok size w) (w : World) : (part e cs o).run P w = .ok (.agg (cs.extract o (o + size))) w := by
  simp [part, hA, hs]
end
section
variable {P : Program} {n : Nat} {ρ : List (Nat × Value)} {w : World} {t : TypeId}
theorem WX.retC1 {fn : Func} {R : Value → World → Prop} {p : Tmp} {ad : Addr} {cs : List Value} (hr : fn.results = #[.cell p t]) (h1 : envGet ρ p = some (.pointer (some ad)))
    (hA : ∀ w, (isAgg t).run P w = .ok true w) (hs : ∀ w, (sizeOf t).run P w = .ok cs.length w) (hc : ∀ j v, cs[j]? = some v → w.cell? (ad.add j) = some v)
    (h : R (.agg cs.toArray) w) : WX (Done P fn R) .ret n ρ w := fun a ha => ⟨ha.defers, _, by
      have e1 := ha.tmp h1
      simp only [results, hr]
      simp only [Array.getD_eq_getD_getElem?] at e1
      simp [e1, asAddr, run_loadVarAgg (P := P) hA hs hc], _, rfl, h⟩
end
section
variable {P : Program} {n : Nat} {ρ : List (Nat × Value)} {w0 w : World} {rest : List Oper} {L : List Asr} {X : SqV P n}
variable {d : Nat} {ty : TypeId} {pos : String} {aft : Array Edge} {x : Operand} {t : TypeId}
/-- A part of a variable. -/
theorem WL.loadSub {g o : Nat} {te : TypeId} {cs ss : List Value} {s : Nat} (hA : ∀ w, (isAgg t).run P w = .ok true w) (hs : ∀ w, (sizeOf t).run P w = .ok s w) (hx : ev ρ x = some (.pointer (some ⟨g, o, none⟩))) (M : Mem w0 w L) (h : Has (Asr.row g te cs) L)
    (hss : (cs.drop o).take s = ss) (hl : ss.length = s) (hd : Nat.blt d n = true)
    (kk : X.S rest ((d, .agg ss.toArray) :: ρ) w) : X.S (⟨some d, .load t x, ty, pos, aft, none⟩ :: rest) ρ w := by
  refine WL.loadAgg hA (by rw [hl]; exact hs) hx (fun j v hv => ?_) hd kk
  rw [add_lit, M.cellH h]
  subst hss
  rw [List.getElem?_take] at hv
  split at hv
  · rwa [List.getElem?_drop] at hv
  · cases hv
end
section
variable {P : Program} {n : Nat} {ρ : List (Nat × Value)} {w0 w : World} {rest : List Oper} {L : List Asr} {Y : Sq P n}
variable {d : Nat} {ty : TypeId} {pos : String} {aft : Array Edge} {x y : Operand} {t e : TypeId}
/-- make of bytes. -/
theorem WL.makeB {k : Nat} {kl kc : IntKind} {j : Int} (hj : j = (k : Int)) (E : Elem P t e 1 1) (hz : ∀ w, (zeroValue e).run P w = .ok (.int .u8 0) w) (M : Mem w0 w L) (hx : ev ρ x = some (.int kl j)) (hy : ev ρ y = some (.int kc j)) (hk : k ≤ 1000000) (hd : Nat.blt d n = true)
    (kk : ∀ g w', Mem w0 w' (Asr.own e 1 (some ⟨g, 0, none⟩) (List.replicate k (0 : UInt8)).length k (bs (List.replicate k 0)) :: L) → Y.S rest ((d, .slice (some ⟨g, 0, none⟩) k k) :: ρ) w') :
    Y.S (⟨some d, .makeSlice t x y, ty, pos, aft, none⟩ :: rest) ρ w := by
  subst hj
  refine WL.make E hz M hx hy (by omega) rfl (by omega) (by omega) hd fun g w' M' => ?_
  rw [Int.toNat_natCast] at M' ⊢
  refine kk g w' ?_
  have e1 : bs (List.replicate k (0 : UInt8)) = List.replicate k (Value.int .u8 0) := by simp [bs, bv]
  rw [e1, List.length_replicate]
  exact M'.rowOwn [] (by simp) (by simp) (by simp) (by simp only [maxLen]; omega) (Nat.le_refl _)
end
end Go.Proofs.Ytcmlehggfkjagaa
