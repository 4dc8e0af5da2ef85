/-
  Rules: function values, a slice against nil, a slice with its room, append in place, clear of what lies behind, make of things.
-/
import Derived.Lib.SliceRun
import Derived.Laws.CopyRow
import Derived.Test.YtkdkdaljgoibaaaWalk
import Derived.Test.YtkdkdaljgoibaaaEncs
namespace Go.Proofs.Ytkdkdaljgoibaaa
open Go Go.RowKit

section
variable {P : Program} {n : Nat} {ρ : List (Nat × Value)} {w0 w : World} {rest : List Oper} {L : List Asr} {Y : Sq P n} {X : SqV P n}
variable {d : Nat} {ty : TypeId} {pos : String} {aft : Array Edge} {x y : Operand} {t t' e : TypeId}
theorem WL.valN {o : Oper} {v : Value} {w' : World} (hg : o.guard = none) (hdst : o.dst = none)
    (hrun : ∀ a, St n ρ a → (execOp a.eval o).run P w = .ok (.value v) w') (k : Y.S rest ρ w') : Y.S (o :: rest) ρ w :=
  Y.step_ hg fun K hK a ha => by
    unfold Oper.wp
    rw [hrun a ha, Oper.upon_value, hdst]
    exact hK _ _ _ ha k
/-- A call of a function value. -/
theorem WL.callV {f : FuncId} {xs : List Operand} {ts : Array TypeId} {vs : List Value} {cs : Array Value} {R : Value → World → Prop} (hcall : ∀ (args : Array Value) (w : World), (callFunc f args).run P w = .ok (.enter f args) w)
    (hx : ev ρ x = some (.func (.func f) #[] cs)) (hxs : evs ρ xs = some vs) (hc : Fn P f (vs ++ cs.toList) w R) (hd : Nat.blt d n = true) (k : ∀ v w', R v w' → Y.S rest ((d, v) :: ρ) w') :
    Y.S (⟨some d, .call ⟨.value x, xs.toArray, ts⟩, ty, pos, aft, none⟩ :: rest) ρ w :=
  Y.step_ rfl fun K hK a ha => by
    have e := ha.evals hxs
    have e2 := ha.eval hx
    have hap : vs.toArray ++ cs = (vs ++ cs.toList).toArray := by apply Array.ext'; simp
    unfold Oper.wp
    simp only [execOp, resolve, e2, Deferred.ofValue, Sem.run_bind, Sem.run_pure, Result.andThen_ok, invoke, List.map_toArray, e, Array.empty_append, hap, hcall, Oper.upon_enter]
    exact Calls.mono hc fun _ w' ⟨v, he, r⟩ => by subst he; exact hK _ _ _ (ha.put hd v) (k v w' r)
theorem WL.eqlSN {A : Option Addr} {m c n' c' : Nat} (ht : P.underlying t = some (.slice e)) (hx : ev ρ x = some (.slice A m c)) (hy : ev ρ y = some (.slice none n' c')) (hd : Nat.blt d n = true)
    (kk : X.S rest ((d, .bool A.isNone) :: ρ) w) : X.S (⟨some d, .binOp .eql t x y t', ty, pos, aft, none⟩ :: rest) ρ w :=
  WL.bin hx hy rfl (Go.Lib.run_eql_slice_nil w t e A m c n' c' ht) hd kk
theorem WL.slice3 {A : Option Addr} {c m size an bn un : Nat} {lo hi mx : Operand} {kl kh km : IntKind} (ht : P.underlying t = some (.slice e)) (hs : ∀ w, (sizeOf e).run P w = .ok size w) (hx : ev ρ x = some (.slice A m c))
    (hl : ev ρ lo = some (.int kl (an : Int))) (hh : ev ρ hi = some (.int kh (bn : Int))) (hm : ev ρ mx = some (.int km (un : Int))) (h1 : an ≤ bn) (h2 : bn ≤ un) (h3 : un ≤ c) (hd : Nat.blt d n = true)
    (kk : ∀ v, X.S rest ((d, v) :: ρ) w) :
    X.S (⟨some d, .slice t x (some lo) (some hi) (some mx), ty, pos, aft, none⟩ :: rest) ρ w := by
  refine WL.val (v := .slice (if un = an then A else A.map (·.add (an * size))) (bn - an) (un - an)) rfl rfl hd (fun f hf => ?_) (kk _)
  simp [execOp, hf.eval hx, hf.eval hl, hf.eval hh, hf.eval hm, Instr.sliceAt, Instr.slice, run_underlying ht, Instr.sliceBounds, run_sliceBound, hs, h1, h2, h3]
end

section
variable {P : Program} {w0 w : World} {L : List Asr} {t e : TypeId} {size n cap m c : Nat} {A' : Option Addr} {vs news : List Value} {g : Nat}
/-- append within the room. -/
theorem run_append_in {bytes : Nat} (E : Elem P t e size bytes) (ty : TypeId) (M : Mem w0 w (Asr.own e size (some ⟨g, 0, none⟩) n cap vs :: L)) (R : Rd w A' m c size news) (h1 : ∀ u ∈ news, u.oneCell' = true) (hroom : n + m ≤ cap) :
    ∃ w', (Builtin.append_ #[t, t] ty #[.slice (some ⟨g, 0, none⟩) n cap, .slice A' m c]).run P w = .ok (.slice (some ⟨g, 0, none⟩) (n + m) cap) w' ∧ Mem w0 w' (Asr.own e size (some ⟨g, 0, none⟩) (n + m) cap (vs ++ news) :: L) := by
  obtain ⟨i, z, hi, hz, rfl, rfl, hzs⟩ := E.info
  have hsz := E.pos
  obtain ⟨hl, h2⟩ := M.head
  by_cases hm0 : m = 0
  · subst hm0
    have hn : news = [] := List.eq_nil_of_length_eq_zero (by simpa using R.len)
    subst hn
    refine ⟨w, ?_, by simpa using M⟩
    have hnc : n ≤ cap := M.rdOwn.le
    have hf : (Builtin.firstCells i.size 0 (.slice A' 0 c)).run P w = .ok #[] w := by
      cases A' with
      | none => rfl
      | some ad => simp [Builtin.firstCells, loadCells, loadCellsFrom]
    simp [Builtin.append_, run_underlying E.und, sizeOf, typeInfo, hi, Builtin.lenOf, hnc, hf, storeCells]
  · obtain ⟨ad, rfl, _, hc⟩ := R.at_ (by omega)
    rcases h2 with ⟨h0, _⟩ | ⟨g', sp, hA, hg, hcl, hcm, hnc⟩
    · cases h0
    · obtain rfl : g = g' := by simpa using hA
      have hfit : n * i.size + news.length ≤ (vs ++ sp).toArray.size := by
        rw [R.len, List.size_toArray, hcl, ← Nat.add_mul]
        exact Nat.mul_le_mul_right _ hroom
      have hr := run_append_room (P := P) w t ty e i E.und hi g n cap (vs ++ sp).toArray hg ad m c news R.len hc h1 hroom hfit
      refine ⟨_, hr, ?_⟩
      have e1 : (vs ++ sp).toArray.toList.take (n * i.size) ++ news ++ (vs ++ sp).toArray.toList.drop (n * i.size + news.length) = (vs ++ news) ++ sp.drop news.length := by
        rw [← hl]
        simp [List.drop_append]
      rw [e1]
      obtain ⟨g', sp', hA, M1, _⟩ := M.ownRow (by simp)
      obtain rfl : g = g' := by simpa using hA
      have M2 : Mem w0 (w.setRow g ((vs ++ news) ++ sp.drop news.length).toArray) (Asr.row g e ((vs ++ news) ++ sp.drop news.length) :: L) :=
        M1.write ⟨rfl, rfl, rfl, by simp, fun k _ hk => setRow_other w g k _ (fun e => hk e)⟩ (setRow_heap w g (vs ++ sp).toArray _ e _ hg) (fun _ hf => .inl hf)
      refine M2.rowOwn _ rfl (by rw [List.length_append, hl, R.len, Nat.add_mul]) ?_ hcm hroom
      simp only [List.length_append, List.length_drop] at hcl ⊢
      have h3 : n * i.size + m * i.size ≤ cap * i.size := by rw [← Nat.add_mul]; exact Nat.mul_le_mul_right _ hroom
      rw [hl, R.len] at *
      omega
/-- clear of what lies behind an owned slice. -/
theorem run_clear_tail {bytes : Nat} (E : Elem P t e size bytes) (hone : ∀ z, (∀ w : World, (zeroValue e).run P w = .ok z w) → ∀ v ∈ z.cells.toList, v.oneCell' = true) (ty : TypeId)
    (M : Mem w0 w (Asr.own e size (some ⟨g, 0, none⟩) n cap vs :: L)) (h : n + m ≤ cap) :
    ∃ w', (Builtin.clear_ #[t] ty #[.slice (some ⟨g, n * size, none⟩) m c]).run P w = .ok (.tuple #[]) w' ∧ Mem w0 w' (Asr.own e size (some ⟨g, 0, none⟩) n cap vs :: L) := by
  obtain ⟨i, z, hi, hz, rfl, rfl, hzs⟩ := E.info
  have hsz := E.pos
  have hzv : ∀ w : World, (zeroValue e).run P w = .ok z w := fun w => by simp [zeroValue, typeInfo, hi, hz]
  have hz1 := hone z hzv
  match m, h with
  | 0, _ => exact ⟨w, by simp [Builtin.clear_, run_underlying E.und], M⟩
  | m + 1, h =>
    obtain ⟨g', sp, hA, M1, hcl, hcm, hnc, hl⟩ := M.ownRow (by simp)
    obtain rfl : g = g' := by simpa using hA
    have hg : w.heap[g]? = some (.cells (vs ++ sp).toArray e (0, 0)) := M1.head
    have hzl : (Builtin.zeroCells z.cells (m + 1)).toList.length = (m + 1) * i.size := by rw [madeZero_length, hzs]
    have hle : n * i.size + (m + 1) * i.size ≤ cap * i.size := by rw [← Nat.add_mul]; exact Nat.mul_le_mul_right _ h
    have hz2 : ∀ v ∈ (Builtin.zeroCells z.cells (m + 1)).toList, v.oneCell' = true := by
      intro v hv
      simp only [Builtin.zeroCells, Array.toList_map, List.mem_map] at hv
      obtain ⟨k, _, rfl⟩ := hv
      refine hz1 _ ?_
      have hlt : k % z.cells.size < z.cells.size := Nat.mod_lt _ (by omega)
      rw [getElem!_pos z.cells _ hlt]
      exact Array.getElem_mem_toList hlt
    have hst := run_storeCells_at (P := P) g (n * i.size) e (Builtin.zeroCells z.cells (m + 1)).toList 0 (vs ++ sp).toArray w hg (by rw [hzl, List.size_toArray, hcl]; omega) hz2
    refine ⟨w.setRow g (((vs ++ sp).toArray.toList.take (n * i.size + 0)) ++ (Builtin.zeroCells z.cells (m + 1)).toList ++ (vs ++ sp).toArray.toList.drop (n * i.size + 0 + (Builtin.zeroCells z.cells (m + 1)).toList.length)).toArray, ?_, ?_⟩
    · simp [Builtin.clear_, run_underlying E.und, hzv, hst]
    · rw [Nat.add_zero, hzl]
      have e1 : (vs ++ sp).toArray.toList.take (n * i.size) ++ (Builtin.zeroCells z.cells (m + 1)).toList ++ (vs ++ sp).toArray.toList.drop (n * i.size + (m + 1) * i.size) = vs ++ ((Builtin.zeroCells z.cells (m + 1)).toList ++ sp.drop ((m + 1) * i.size)) := by
        rw [← hl]
        simp [List.drop_append]
      rw [e1]
      have M2 : Mem w0 (w.setRow g (vs ++ ((Builtin.zeroCells z.cells (m + 1)).toList ++ sp.drop ((m + 1) * i.size))).toArray) (Asr.row g e (vs ++ ((Builtin.zeroCells z.cells (m + 1)).toList ++ sp.drop ((m + 1) * i.size))) :: L) :=
        M1.write ⟨rfl, rfl, rfl, by simp, fun k _ hk => setRow_other w g k _ (fun e => hk e)⟩ (setRow_heap w g (vs ++ sp).toArray _ e _ hg) (fun _ hf => .inl hf)
      refine M2.rowOwn _ rfl hl ?_ hcm hnc
      rw [List.length_append, List.length_append, hzl, List.length_drop, ← hcl, List.length_append]
      rw [List.length_append, hl] at hcl
      omega
end
section
variable {P : Program} {n : Nat} {ρ : List (Nat × Value)} {w0 w : World} {rest : List Oper} {L L' : List Asr} {Y : Sq P n}
variable {d : Nat} {ty : TypeId} {pos : String} {aft : Array Edge} {x y : Operand} {t : TypeId} {α : Type} {E : Enc α}
theorem WL.appendIn {A' : Option Addr} {g cap c m m0 bytes : Nat} {l news : List α} (T : Elem P t E.e E.size bytes) (hx : ev ρ x = some (.slice (some ⟨g, 0, none⟩) m0 cap)) (hy : ev ρ y = some (.slice A' m c))
    (M : Mem w0 w L) (h : Del (Asr.lst E (some ⟨g, 0, none⟩) cap l) L L') (R : RdL w E A' c news) (hm0 : m0 = l.length) (hm : m = news.length) (hroom : l.length + news.length ≤ cap) (hd : Nat.blt d n = true)
    (kk : ∀ w', Mem w0 w' (Asr.lst E (some ⟨g, 0, none⟩) cap (l ++ news) :: L') → Y.S rest ((d, .slice (some ⟨g, 0, none⟩) (l ++ news).length cap) :: ρ) w') :
    Y.S (⟨some d, .call ⟨.builtin .append, #[x, y], #[t, t]⟩, ty, pos, aft, none⟩ :: rest) ρ w := by
  subst hm hm0
  obtain ⟨w', hr, M'⟩ := run_append_in T ty (M.del h) R (E.all_one _) hroom
  have := kk w' (by
    unfold Asr.lst
    rw [E.all_append, List.length_append]
    exact M')
  rw [List.length_append] at this
  exact WL.valW rfl rfl hd (fun a ha => by
    simp only [execOp, resolve, invoke, builtin, Sem.run_bind, Sem.run_pure, Result.andThen_ok, List.map_toArray, List.map_cons, List.map_nil, ha.eval hx, ha.eval hy, hr]) this
theorem WL.clearTail {g cap c m bytes k : Nat} {l : List α} (T : Elem P t E.e E.size bytes) (hone : ∀ z, (∀ w : World, (zeroValue E.e).run P w = .ok z w) → ∀ v ∈ z.cells.toList, v.oneCell' = true) (hx : ev ρ x = some (.slice (some ⟨g, k, none⟩) m c)) (hk : k = l.length * E.size)
    (M : Mem w0 w L) (h : Del (Asr.lst E (some ⟨g, 0, none⟩) cap l) L L') (hroom : l.length + m ≤ cap)
    (kk : ∀ w', Mem w0 w' (Asr.lst E (some ⟨g, 0, none⟩) cap l :: L') → Y.S rest ρ w') :
    Y.S (⟨none, .call ⟨.builtin .clear, #[x], #[t]⟩, ty, pos, aft, none⟩ :: rest) ρ w := by
  subst hk
  obtain ⟨w', hr, M'⟩ := run_clear_tail (c := c) T hone ty (M.del h) hroom
  refine WL.valN (v := .tuple #[]) rfl rfl (fun f hfr => ?_) (kk w' M')
  simp only [execOp, resolve, invoke, builtin, Sem.run_bind, Sem.run_pure, Result.andThen_ok, List.map_toArray, List.map_cons, List.map_nil, hfr.eval hx, hr]
/-- make of things. -/
theorem WL.makeL [Inhabited α] {z0 : α} {bytes : Nat} {zv : Value} {kl kc : IntKind} {j : Int} (T : Elem P t E.e E.size bytes) (hz : ∀ w, (zeroValue E.e).run P w = .ok zv w) (hz0 : zv.cells.toList = E.cells z0) (M : Mem w0 w L) (hx : ev ρ x = some (.int kl j)) (hy : ev ρ y = some (.int kc j)) (h0 : 0 ≤ j) (hb : bytes * j.toNat ≤ 281474976710656) (hm : j.toNat ≤ maxLen)
    (hd : Nat.blt d n = true)
    (kk : ∀ g w', Mem w0 w' (Asr.lst E (some ⟨g, 0, none⟩) j.toNat (List.replicate j.toNat z0) :: L) → Y.S rest ((d, .slice (some ⟨g, 0, none⟩) j.toNat j.toNat) :: ρ) w') :
    Y.S (⟨some d, .makeSlice t x y, ty, pos, aft, none⟩ :: rest) ρ w := by
  obtain ⟨m, rfl⟩ := Int.eq_ofNat_of_zero_le h0
  simp only [Int.toNat_natCast] at *
  have hpos := T.pos
  obtain ⟨inf, z, hi, hzz, hsz, hby, hzs⟩ := T.info
  have hzv : z = zv := by
    have := hz w
    simp [zeroValue, typeInfo, hi, hzz] at this
    exact this
  subst hzv
  have hm63 : (m : Int) ≤ 9223372036854775807 := by simp only [maxLen] at hm; omega
  have hr := run_make (P := P) w t E.e inf z T.und hi hzz kl kc m m (by omega) (Int.le_refl _) (by
    have h : ((bytes * m : Nat) : Int) ≤ 281474976710656 := by omega
    rw [hby]
    rwa [Int.natCast_mul] at h) hm63
  have M1 := M.alloc (.cells (madeCells z.cells (m * inf.size)) E.e)
  have e1 : madeCells z.cells (m * inf.size) = (E.all (List.replicate m z0)).toArray := by
    apply Array.ext'
    apply List.ext_getElem?
    intro i
    show (madeCells z.cells (m * inf.size)).toList[i]? = (E.all (List.replicate m z0))[i]?
    unfold madeCells
    rw [hsz, Array.toList_map, List.getElem?_map, Array.toList_range]
    rcases Nat.lt_or_ge i (m * E.size) with h | h
    · have hq : i / E.size < m := Nat.div_lt_of_lt_mul (by rw [Nat.mul_comm]; exact h)
      have hr : i % E.size < E.size := Nat.mod_lt _ hpos
      have hi : i = i / E.size * E.size + i % E.size := by rw [Nat.mul_comm]; exact (Nat.div_add_mod i E.size).symm
      have hg := E.all_get (List.replicate m z0) (i / E.size) (i % E.size) (by simpa using hq) hr
      rw [← hi] at hg
      rw [hg]
      have hel : el (List.replicate m z0) (i / E.size) = z0 := by simp [el, hq]
      rw [hel, ← hz0, List.getElem?_range h, Option.map_some]
      have hlt : i % z.cells.size < z.cells.size := Nat.mod_lt _ (by omega)
      rw [getElem!_pos z.cells _ hlt, Array.getElem?_toList, ← hzs, Array.getElem?_eq_getElem hlt]
    · rw [List.getElem?_eq_none (by simpa using h), List.getElem?_eq_none (by rw [E.all_length]; simpa using h)]
      rfl
  rw [e1] at M1
  have M2 : Mem w0 (w.alloc (.cells (E.all (List.replicate m z0)).toArray E.e)) (Asr.row w.heap.size E.e (E.all (List.replicate m z0)) :: L) := M1
  have hal : (E.all (List.replicate m z0)).length = m * E.size := by rw [E.all_length]; simp
  have M3 : Mem w0 (w.alloc (.cells (E.all (List.replicate m z0)).toArray E.e)) (Asr.lst E (some ⟨w.heap.size, 0, none⟩) m (List.replicate m z0) :: L) := by
    unfold Asr.lst
    rw [List.length_replicate]
    exact M2.rowOwn [] (by simp) hal (by simpa using hal) hm (Nat.le_refl _)
  refine WL.valW rfl rfl hd (fun a ha => ?_) (kk w.heap.size _ M3)
  simp only [Int.toNat_natCast] at hr
  rw [e1] at hr
  simp [execOp, ha.eval hx, ha.eval hy, hr]
end
end Go.Proofs.Ytkdkdaljgoibaaa
