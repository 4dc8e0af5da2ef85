/-
  Structs: variables in memory, values put together, stores and loads of more cells, results that stand in memory. Generic in the program.
-/
import Derived.Test.YtkdkdaljgoibaaaOwnAll
import Derived.Laws.CopyRow
import Derived.Laws.Cells
namespace Go.Proofs.Ytkdkdaljgoibaaa
open Go Go.RowKit

section
variable {P : Program} {n : Nat} {ρ : List (Nat × Value)} {w0 w : World} {rest : List Oper} {L : List Asr} {X : SqV P n} {Y : Sq P n}
variable {d : Nat} {ty : TypeId} {pos : String} {aft : Array Edge} {x y : Operand} {t e : TypeId} {k : IntKind} {i : Int}

/-- A new variable: zero. -/
theorem WL.alloc {z : Value} (hz : ∀ w, (zeroValue e).run P w = .ok z w) (M : Mem w0 w L) (hd : Nat.blt d n = true)
    (kk : ∀ g w', Mem w0 w' (Asr.row g e z.cells.toList :: L) → Y.S rest ((d, .pointer (some ⟨g, 0, none⟩)) :: ρ) w') :
    Y.S (⟨some d, .alloc e, ty, pos, aft, none⟩ :: rest) ρ w := by
  have M' := M.alloc (.cells z.cells e)
  refine WL.valW (v := .pointer (some ⟨w.heap.size, 0, none⟩)) (w' := w.alloc (.cells z.cells e)) rfl rfl hd (fun a _ => ?_) (kk w.heap.size _ (by simpa [Asr.row] using M'))
  simp [execOp, Instr.alloc, hz, newVar, newRow]

/-- A new variable that holds a value. -/
theorem WL.box {v : Value} (hx : ev ρ x = some v) (M : Mem w0 w L) (hd : Nat.blt d n = true)
    (kk : ∀ g w', Mem w0 w' (Asr.row g e v.cells.toList :: L) → Y.S rest ((d, .pointer (some ⟨g, 0, none⟩)) :: ρ) w') :
    Y.S (⟨some d, .box e x, ty, pos, aft, none⟩ :: rest) ρ w := by
  have M' := M.alloc (.cells v.cells e)
  refine WL.valW (v := .pointer (some ⟨w.heap.size, 0, none⟩)) (w' := w.alloc (.cells v.cells e)) rfl rfl hd (fun a ha => ?_) (kk w.heap.size _ (by simpa [Asr.row] using M'))
  simp [execOp, Instr.box, ha.eval hx, newVar, newRow]

/-- A struct's value. -/
theorem WL.build {parts : Array (Nat × Operand)} {fs : Array Field} {z : Value} {vs : List Value} {cells : Array Value} {places : Array (Nat × Nat)} (ht : P.underlying t = some (.struct fs)) (hz : ∀ w, (zeroValue t).run P w = .ok z w)
    (hp : ∀ w, (fs.mapM (m := Sem) fun (f : Field) => Prod.mk f.offset <$> sizeOf f.type).run P w = .ok places w) (hx : evs ρ (parts.toList.map (·.2)) = some vs)
    (hf : Instr.fill (places[·]?) z.cells ((parts.toList.map (·.1)).zip vs) = some cells) (hd : Nat.blt d n = true)
    (kk : X.S rest ((d, .agg cells) :: ρ) w) : X.S (⟨some d, .build t parts, ty, pos, aft, none⟩ :: rest) ρ w := by
  refine WL.val rfl rfl hd (fun a ha => ?_) kk
  have h1 : parts.toList.map (fun x => (x.1, a.eval x.2)) = (parts.toList.map (·.1)).zip vs := by
    have h2 := ha.evals hx
    rw [← h2]
    induction parts.toList with
    | nil => rfl
    | cons p ps ih => simp [ih]
  simp [execOp, Instr.build, hz, run_underlying ht, hp, h1, hf]

/-- A store of a whole value into what stands in front. -/
theorem WL.storeV {g o : Nat} {te : TypeId} {pre old suf : List Value} {v : Value} {s : Nat} (M : Mem w0 w (Asr.row g te (pre ++ old ++ suf) :: L)) (hs : ∀ w, (sizeOf t).run P w = .ok s w) (hx : ev ρ x = some (.pointer (some ⟨g, o, none⟩))) (hy : ev ρ y = some v)
    (hv : ∀ u ∈ v.cells.toList, u.oneCell' = true) (ho : pre.length = o) (hold : old.length = s) (hsz : v.cells.size = s) (kk : ∀ w', Mem w0 w' (Asr.row g te (pre ++ v.cells.toList ++ suf) :: L) → Y.S rest ρ w') :
    Y.S (⟨none, .store t x y, ty, pos, aft, none⟩ :: rest) ρ w := by
  have hg : w.heap[g]? = some (.cells (pre ++ old ++ suf).toArray te (0, 0)) := M.head
  have hlen : v.cells.toList.length = s := by simpa using hsz
  have hr := run_storeCells_at (P := P) g o te v.cells.toList 0 _ w hg (by simp; omega) hv
  have e1 : (pre ++ old ++ suf).toArray.toList.take (o + 0) ++ v.cells.toList ++ (pre ++ old ++ suf).toArray.toList.drop (o + 0 + v.cells.toList.length) = pre ++ v.cells.toList ++ suf := by
    rw [hlen, ← ho, ← hold]
    simp [List.append_assoc, List.drop_append]
  rw [e1] at hr
  have M2 : Mem w0 (w.setRow g (pre ++ v.cells.toList ++ suf).toArray) (Asr.row g te (pre ++ v.cells.toList ++ suf) :: L) :=
    M.write ⟨rfl, rfl, rfl, by simp, fun k _ hk => setRow_other w g k _ (fun e => hk e)⟩ (setRow_heap w g _ _ te _ hg) (fun _ hf => .inl hf)
  refine WL.unit rfl rfl (fun a ha => ?_) (kk _ M2)
  simp [execOp, ha.eval hx, ha.eval hy, Instr.storeAt, Instr.sureAddr, storeVar, hs, hsz, hr]

/-- A store of a whole value over a whole variable. -/
theorem WL.storeW {g : Nat} {te : TypeId} {old : List Value} {v : Value} {s : Nat} (M : Mem w0 w (Asr.row g te old :: L)) (hs : ∀ w, (sizeOf t).run P w = .ok s w) (hx : ev ρ x = some (.pointer (some ⟨g, 0, none⟩))) (hy : ev ρ y = some v)
    (hv : ∀ u ∈ v.cells.toList, u.oneCell' = true) (hold : old.length = s) (hsz : v.cells.size = s) (kk : ∀ w', Mem w0 w' (Asr.row g te v.cells.toList :: L) → Y.S rest ρ w') :
    Y.S (⟨none, .store t x y, ty, pos, aft, none⟩ :: rest) ρ w :=
  WL.storeV (pre := []) (suf := []) (old := old) (by simpa using M) hs hx hy hv rfl hold hsz (by simpa using kk)

/-- A load of a whole struct. -/
theorem WL.loadAgg {ad : Addr} {cs : List Value} (hA : ∀ w, (isAgg t).run P w = .ok true w) (hs : ∀ w, (sizeOf t).run P w = .ok cs.length w) (hx : ev ρ x = some (.pointer (some ad))) (hc : ∀ j v, cs[j]? = some v → w.cell? (ad.add j) = some v) (hd : Nat.blt d n = true)
    (kk : X.S rest ((d, .agg cs.toArray) :: ρ) w) : X.S (⟨some d, .load t x, ty, pos, aft, none⟩ :: rest) ρ w :=
  WL.val rfl rfl hd (fun a ha => by simp [execOp, ha.eval hx, Instr.loadAt, Instr.sureAddr, loadVar, hA, hs, run_loadCells_list (P := P) w ad cs hc]) kk

theorem run_loadVarAgg {ad : Addr} {cs : List Value} (hA : ∀ w, (isAgg t).run P w = .ok true w) (hs : ∀ w, (sizeOf t).run P w = .ok cs.length w) (hc : ∀ j v, cs[j]? = some v → w.cell? (ad.add j) = some v) :
    (loadVar t ad).run P w = .ok (.agg cs.toArray) w := by
  simp [loadVar, hA, hs, run_loadCells_list (P := P) w ad cs hc]

theorem Mem.cells {g : Nat} {cs : List Value} (M : Mem w0 w (Asr.row g e cs :: L)) : ∀ j v, cs[j]? = some v → w.cell? ((⟨g, 0, none⟩ : Addr).add j) = some v := fun j v hj => by
  rw [add_lit, Nat.zero_add, M.cell, hj]

theorem WX.retC2 {fn : Func} {R : Value → World → Prop} {p u : Tmp} {v2 : Value} {ad : Addr} {cs : List Value} (hr : fn.results = #[.cell p t, .tmp u]) (h1 : envGet ρ p = some (.pointer (some ad))) (h2 : envGet ρ u = some v2)
    (hA : ∀ w, (isAgg t).run P w = .ok true w) (hs : ∀ w, (sizeOf t).run P w = .ok cs.length w) (hc : ∀ j v, cs[j]? = some v → w.cell? (ad.add j) = some v)
    (h : R (.tuple #[.agg cs.toArray, v2]) w) : WX (Done P fn R) .ret n ρ w := fun a ha => ⟨ha.defers, _, by
      have e1 := ha.tmp h1
      have e2 := ha.tmp h2
      simp only [results, hr]
      simp only [Array.getD_eq_getD_getElem?] at e1 e2
      simp [e1, e2, asAddr, run_loadVarAgg (P := P) hA hs hc], _, rfl, h⟩
theorem WX.retC3 {fn : Func} {R : Value → World → Prop} {p u s : Tmp} {v2 v3 : Value} {ad : Addr} {cs : List Value} (hr : fn.results = #[.cell p t, .tmp u, .tmp s]) (h1 : envGet ρ p = some (.pointer (some ad))) (h2 : envGet ρ u = some v2) (h3 : envGet ρ s = some v3)
    (hA : ∀ w, (isAgg t).run P w = .ok true w) (hs : ∀ w, (sizeOf t).run P w = .ok cs.length w) (hc : ∀ j v, cs[j]? = some v → w.cell? (ad.add j) = some v)
    (h : R (.tuple #[.agg cs.toArray, v2, v3]) w) : WX (Done P fn R) .ret n ρ w := fun a ha => ⟨ha.defers, _, by
      have e1 := ha.tmp h1
      have e2 := ha.tmp h2
      have e3 := ha.tmp h3
      simp only [results, hr]
      simp only [Array.getD_eq_getD_getElem?] at e1 e2 e3
      simp [e1, e2, e3, asAddr, run_loadVarAgg (P := P) hA hs hc], _, rfl, h⟩
end
end Go.Proofs.Ytkdkdaljgoibaaa
