/-
  Slices that the call itself makes: append, make, slice literals; variables in memory. Generic in the program.
-/
import Derived.Test.YtkdkdaljgoibaaaMem
namespace Go.Proofs.Ytkdkdaljgoibaaa
open Go Go.RowKit

/-- The slice '.slice A n cap' is the only one over its block (or nil); it holds the cells vs. -/
def Asr.own (e : TypeId) (size : Nat) (A : Option Addr) (n cap : Nat) (vs : List Value) : Asr where
  foot := fun k => A.map (·.block) = some k
  holds := fun w => vs.length = n * size ∧ ((A = none ∧ n = 0 ∧ cap = 0) ∨
    ∃ g sp, A = some ⟨g, 0, none⟩ ∧ w.heap[g]? = some (.cells (vs ++ sp).toArray e (0, 0)) ∧ (vs ++ sp).length = cap * size ∧ cap ≤ maxLen ∧ n ≤ cap)
  bound := fun w h k hk => by
    rcases h.2 with ⟨rfl, _⟩ | ⟨g, sp, rfl, hg, _⟩
    · cases hk
    · have : g = k := by simpa using hk
      subst this
      exact (Array.getElem?_eq_some_iff.1 hg).1
  stays := fun w w' hk h => by
    refine ⟨h.1, ?_⟩
    rcases h.2 with h0 | ⟨g, sp, rfl, hg, r⟩
    · exact .inl h0
    · exact .inr ⟨g, sp, rfl, by rw [hk g rfl]; exact hg, r⟩

section
variable {w0 w : World} {L : List Asr} {e : TypeId} {size n cap : Nat} {A : Option Addr} {vs : List Value}

theorem Mem.nilOwn (h : Mem w0 w L) (e : TypeId) (size : Nat) : Mem w0 w (Asr.own e size none 0 0 [] :: L) :=
  ⟨h.base, ⟨⟨by simp, .inl ⟨rfl, rfl, rfl⟩⟩, (fun _ _ _ hg => by cases hg), h.sep⟩, fun B hB g hg => by
    rcases List.mem_cons.1 hB with rfl | hB
    · cases hg
    · exact h.new B hB g hg⟩

theorem Mem.rdOwn (h : Mem w0 w (Asr.own e size A n cap vs :: L)) : Rd w A n cap size vs := by
  obtain ⟨hl, h2⟩ := h.head
  rcases h2 with ⟨rfl, rfl, rfl⟩ | ⟨g, sp, rfl, hg, hc, _, hn⟩
  · exact ⟨hl, Nat.le_refl _, fun h => by omega⟩
  · refine ⟨hl, hn, fun _ => ⟨_, rfl, (Array.getElem?_eq_some_iff.1 hg).1, fun j v hv => ?_⟩⟩
    rw [add_lit, Nat.zero_add, cell_of_row w g j _ e _ hg]
    have hj := (List.getElem?_eq_some_iff.1 hv).1
    simp [List.getElem?_append_left hj, hv]

theorem Mem.rdOwnB {l : List UInt8} (h : Mem w0 w (Asr.own e 1 A l.length cap (bs l) :: L)) : RdB w A cap l := h.rdOwn

/-- An owned slice, as its block. -/
theorem Mem.ownRow (h : Mem w0 w (Asr.own e size A n cap vs :: L)) (hA : A ≠ none) :
    ∃ g sp, A = some ⟨g, 0, none⟩ ∧ Mem w0 w (Asr.row g e (vs ++ sp) :: L) ∧ (vs ++ sp).length = cap * size ∧ cap ≤ maxLen ∧ n ≤ cap ∧ vs.length = n * size := by
  obtain ⟨hl, h2⟩ := h.head
  rcases h2 with ⟨rfl, _⟩ | ⟨g, sp, rfl, hg, hc, hm, hn⟩
  · exact absurd rfl hA
  · refine ⟨g, sp, rfl, ⟨h.base, ⟨hg, fun B hB k hk => ?_, h.sep.2.2⟩, fun B hB k hk => ?_⟩, hc, hm, hn, hl⟩
    · have hk' : k = g := hk
      subst hk'
      exact h.sep.2.1 B hB k rfl
    · rcases List.mem_cons.1 hB with rfl | hB
      · have hk' : k = g := hk
        subst hk'
        exact h.new _ (List.mem_cons_self ..) k rfl
      · exact h.new B (List.mem_cons_of_mem _ hB) k hk

/-- A block, as an owned slice of its beginning. -/
theorem Mem.rowOwn {g : Nat} {cs : List Value} (h : Mem w0 w (Asr.row g e cs :: L)) (sp : List Value) (hcs : cs = vs ++ sp) (hl : vs.length = n * size) (hc : (vs ++ sp).length = cap * size) (hm : cap ≤ maxLen) (hn : n ≤ cap) :
    Mem w0 w (Asr.own e size (some ⟨g, 0, none⟩) n cap vs :: L) := by
  subst hcs
  refine ⟨h.base, ⟨⟨hl, .inr ⟨g, sp, rfl, h.head, hc, hm, hn⟩⟩, fun B hB k hk => ?_, h.sep.2.2⟩, fun B hB k hk => ?_⟩
  · have hk' : g = k := by simpa [Asr.own] using hk
    subst hk'
    exact h.sep.2.1 B hB g rfl
  · rcases List.mem_cons.1 hB with rfl | hB
    · have hk' : g = k := by simpa [Asr.own] using hk
      subst hk'
      exact h.new _ (List.mem_cons_self ..) g rfl
    · exact h.new B (List.mem_cons_of_mem _ hB) k hk
end

/-! ### append -/

theorem madeZero_length (z : Array Value) (k : Nat) : (Builtin.zeroCells z k).toList.length = k * z.size := by simp [Builtin.zeroCells]

section
variable {P : Program} {w0 w : World} {L : List Asr} {t e : TypeId} {size n cap m c : Nat} {A A' : Option Addr} {vs news : List Value} {i : TypeInfo} {z : Value}

/-- What an append needs to know of the element's type. -/
structure Elem (P : Program) (t e : TypeId) (size bytes : Nat) : Prop where
  und : P.underlying t = some (.slice e)
  info : ∃ i z, P.info? e = some i ∧ i.zero = some z ∧ i.size = size ∧ i.bytes = bytes ∧ z.cells.size = size
  pos : 0 < size

theorem run_append2 {bytes : Nat} (E : Elem P t e size bytes) (ty : TypeId) (M : Mem w0 w (Asr.own e size A n cap vs :: L)) (R : Rd w A' m c size news) (h1 : ∀ u ∈ news, u.oneCell' = true)
    (hb : (n + m) * bytes ≤ 140737488355328) (hm : n + m ≤ maxLen) :
    ∃ A2 cap2 w', (Builtin.append_ #[t, t] ty #[.slice A n cap, .slice A' m c]).run P w = .ok (.slice A2 (n + m) cap2) w' ∧ Mem w0 w' (Asr.own e size A2 (n + m) cap2 (vs ++ news) :: L) ∧
      ((A2 = A ∧ Chg w w' (fun k => A.map (·.block) = some k)) ∨ ((∀ g, A2.map (·.block) = some g → w.heap.size ≤ g) ∧ Chg w w' none_)) := by
  obtain ⟨i, z, hi, hz, rfl, rfl, hzs⟩ := E.info
  have hsz := E.pos
  obtain ⟨hl, h2⟩ := M.head
  have hm' : ((n + m : Nat) : Int) ≤ 9223372036854775807 := by simp only [maxLen] at hm; omega
  -- the new block
  have made : ∀ old, Mem w0 (w.drew.alloc (.cells (vs.toArray ++ news.toArray ++ Builtin.zeroCells z.cells (grownCap w (n + m) old e - (n + m))) e))
      (Asr.own e i.size (some ⟨w.heap.size, 0, none⟩) (n + m) (grownCap w (n + m) old e) (vs ++ news) :: L) := by
    intro old
    have hge := grownCap_ge w (n + m) old e
    have hcm : grownCap w (n + m) old e ≤ maxLen := grownCap_le_maxLen w (n + m) old e hm
    have M1 := (M.tail.drew).alloc (.cells (vs.toArray ++ news.toArray ++ Builtin.zeroCells z.cells (grownCap w (n + m) old e - (n + m))) e)
    have M2 : Mem w0 (w.drew.alloc (.cells (vs.toArray ++ news.toArray ++ Builtin.zeroCells z.cells (grownCap w (n + m) old e - (n + m))) e)) (Asr.row w.heap.size e ((vs ++ news) ++ (Builtin.zeroCells z.cells (grownCap w (n + m) old e - (n + m))).toList) :: L) := by
      have e1 : (vs.toArray ++ news.toArray ++ Builtin.zeroCells z.cells (grownCap w (n + m) old e - (n + m))) = ((vs ++ news) ++ (Builtin.zeroCells z.cells (grownCap w (n + m) old e - (n + m))).toList).toArray := by
        apply Array.ext'; simp
      rw [Asr.row, ← e1]
      exact M1
    refine M2.rowOwn _ rfl (by rw [List.length_append, hl, R.len, Nat.add_mul]) ?_ hcm hge
    rw [List.length_append, madeZero_length, hzs, List.length_append, hl, R.len, ← Nat.add_mul, ← Nat.add_mul]
    congr 1
    omega
  -- nothing is appended
  by_cases hm0 : m = 0
  · subst hm0
    have hn : news = [] := List.eq_nil_of_length_eq_zero (by simpa using R.len)
    subst hn
    refine ⟨A, cap, w, ?_, by simpa using M, .inl ⟨rfl, Chg.refl _ _⟩⟩
    have hnc : n ≤ cap := M.rdOwn.le
    have hf : (Builtin.firstCells i.size 0 (.slice A' 0 c)).run P w = .ok #[] w := by
      cases A' with
      | none => rfl
      | some ad => simp [Builtin.firstCells, loadCells, loadCellsFrom]
    cases A with
    | none => simp [Builtin.append_, run_underlying E.und, sizeOf, typeInfo, hi, Builtin.lenOf, hnc, hf]
    | some a => simp [Builtin.append_, run_underlying E.und, sizeOf, typeInfo, hi, Builtin.lenOf, hnc, hf, storeCells]
  · obtain ⟨ad, rfl, _, hc⟩ := R.at_ (by omega)
    rcases h2 with ⟨rfl, rfl, rfl⟩ | ⟨g, sp, rfl, hg, hcl, hcm, hnc⟩
    · have hv : vs = [] := List.eq_nil_of_length_eq_zero (by simpa using hl)
      subst hv
      have hr := run_append_nil (P := P) w t ty e i z E.und hi hz ad m c news R.len hc (by omega) (by omega) (by have hb := hb; simp only [Nat.zero_add] at hb; omega)
      have hmd := made 0
      simp only [Nat.zero_add, List.nil_append, Array.empty_append] at hmd ⊢
      exact ⟨_, _, _, hr, hmd, .inr ⟨fun g hg => by simp at hg; omega, (((Mem.refl w).drew).alloc _).base⟩⟩
    · by_cases hroom : n + m ≤ cap
      · have hfit : n * i.size + news.length ≤ (vs ++ sp).toArray.size := by
          rw [R.len, List.size_toArray, hcl, ← Nat.add_mul]
          exact Nat.mul_le_mul_right _ hroom
        have hr := run_append_room (P := P) w t ty e i E.und hi g n cap (vs ++ sp).toArray hg ad m c news R.len hc h1 hroom hfit
        refine ⟨_, _, _, hr, ?_, .inl ⟨rfl, ⟨rfl, rfl, rfl, by simp, fun k _ hk => setRow_other w g k _ (fun e => hk (by simp [e]))⟩⟩⟩
        have e1 : (vs ++ sp).toArray.toList.take (n * i.size) ++ news ++ (vs ++ sp).toArray.toList.drop (n * i.size + news.length) = (vs ++ news) ++ sp.drop news.length := by
          rw [← hl]
          simp [List.drop_append]
        rw [e1]
        obtain ⟨g', sp', hA, M1, _⟩ := M.ownRow (by simp)
        obtain rfl : g = g' := by simpa using hA
        have M2 : Mem w0 (w.setRow g ((vs ++ news) ++ sp.drop news.length).toArray) (Asr.row g e ((vs ++ news) ++ sp.drop news.length) :: L) :=
          M1.write ⟨rfl, rfl, rfl, by simp, fun k _ hk => setRow_other w g k _ (fun e => hk e)⟩ (setRow_heap w g (vs ++ sp).toArray _ e _ hg) (fun _ hf => .inl hf)
        refine M2.rowOwn _ rfl (by rw [List.length_append, hl, R.len, Nat.add_mul]) ?_ hcm hroom
        simp only [List.length_append, List.length_drop] at hcl ⊢
        have h3 : n * i.size + m * i.size ≤ cap * i.size := by rw [← Nat.add_mul]; exact Nat.mul_le_mul_right _ hroom
        rw [hl, R.len] at *
        omega
      · have hvs : ∀ j u, vs[j]? = some u → w.cell? ((⟨g, 0, none⟩ : Addr).add j) = some u := by
          intro j u hu
          rw [add_lit, Nat.zero_add, cell_of_row w g j _ e _ hg]
          have hj := (List.getElem?_eq_some_iff.1 hu).1
          simp [List.getElem?_append_left hj, hu]
        have hr := run_append_grow (P := P) w t ty e i z E.und hi hz ⟨g, 0, none⟩ n cap vs hl hvs ad m c news R.len hc (by omega) hm' (growslice_fits (by omega) hb)
        exact ⟨_, _, _, hr, made cap, .inr ⟨fun g hg => by simp at hg; omega, (((Mem.refl w).drew).alloc _).base⟩⟩
theorem run_append {bytes : Nat} (E : Elem P t e size bytes) (ty : TypeId) (M : Mem w0 w (Asr.own e size A n cap vs :: L)) (R : Rd w A' m c size news) (h1 : ∀ u ∈ news, u.oneCell' = true)
    (hb : (n + m) * bytes ≤ 140737488355328) (hm : n + m ≤ maxLen) :
    ∃ A2 cap2 w', (Builtin.append_ #[t, t] ty #[.slice A n cap, .slice A' m c]).run P w = .ok (.slice A2 (n + m) cap2) w' ∧ Mem w0 w' (Asr.own e size A2 (n + m) cap2 (vs ++ news) :: L) := by
  obtain ⟨A2, cap2, w', hr, M', _⟩ := run_append2 E ty M R h1 hb hm
  exact ⟨A2, cap2, w', hr, M'⟩
end

section
variable {P : Program} {n : Nat} {ρ : List (Nat × Value)} {w0 w : World} {rest : List Oper} {L : List Asr} {Y : Sq P n}
variable {d : Nat} {ty : TypeId} {pos : String} {aft : Array Edge} {x y : Operand} {t t' e : TypeId} {k yk : IntKind} {i j r : Int}

theorem WL.append {A A' : Option Addr} {m cap m' c size bytes : Nat} {vs news : List Value} (E : Elem P t e size bytes) (hx : ev ρ x = some (.slice A m cap)) (hy : ev ρ y = some (.slice A' m' c))
    (M : Mem w0 w (Asr.own e size A m cap vs :: L)) (R : Rd w A' m' c size news) (h1 : ∀ u ∈ news, u.oneCell' = true)
    (hb : (m + m') * bytes ≤ 140737488355328) (hm : m + m' ≤ maxLen) (hd : Nat.blt d n = true)
    (kk : ∀ A2 cap2 w', Mem w0 w' (Asr.own e size A2 (m + m') cap2 (vs ++ news) :: L) → Y.S rest ((d, .slice A2 (m + m') cap2) :: ρ) w') :
    Y.S (⟨some d, .call ⟨.builtin .append, #[x, y], #[t, t]⟩, ty, pos, aft, none⟩ :: rest) ρ w := by
  obtain ⟨A2, cap2, w', hr, M'⟩ := run_append E ty M R h1 hb hm
  exact WL.valW rfl rfl hd (fun a ha => by
    simp only [execOp, resolve, invoke, builtin, Sem.run_bind, Sem.run_pure, Result.andThen_ok, List.map_toArray, List.map_cons, List.map_nil, ha.eval hx, ha.eval hy, hr]) (kk A2 cap2 w' M')

theorem bs_oneCell (l : List UInt8) : ∀ u ∈ bs l, u.oneCell' = true := by
  intro u hu
  obtain ⟨_, _, rfl⟩ := List.mem_map.1 hu
  rfl

/-- append of bytes: 2^47 is the reach. -/
theorem WL.appendB {A A' : Option Addr} {m cap m' c : Nat} {l news : List UInt8} (E : Elem P t e 1 1) (hx : ev ρ x = some (.slice A m cap)) (hy : ev ρ y = some (.slice A' m' c))
    (M : Mem w0 w (Asr.own e 1 A m cap (bs l) :: L)) (R : RdB w A' c news) (hl : m = l.length) (hn : m' = news.length) (hb : l.length + news.length ≤ 140737488355328) (hd : Nat.blt d n = true)
    (kk : ∀ A2 cap2 w', Mem w0 w' (Asr.own e 1 A2 (l ++ news).length cap2 (bs (l ++ news)) :: L) → Y.S rest ((d, .slice A2 (l ++ news).length cap2) :: ρ) w') :
    Y.S (⟨some d, .call ⟨.builtin .append, #[x, y], #[t, t]⟩, ty, pos, aft, none⟩ :: rest) ρ w := by
  subst hl hn
  refine WL.append E hx hy M R (bs_oneCell _) (by omega) (by simp only [maxLen]; omega) hd ?_
  rw [← List.length_append, ← bs_append]
  exact kk

/-- 'fill' of one-cell parts in order. -/
theorem fill_one : ∀ (vs pre zs : List Value), zs.length = vs.length → (∀ v ∈ vs, v.oneCell' = true) →
    Instr.fill (fun i => some (i * 1, 1)) (pre ++ zs).toArray ((List.range' pre.length vs.length).zip vs) = some (pre ++ vs).toArray
  | [], pre, zs, hz, _ => by
    have : zs = [] := List.eq_nil_of_length_eq_zero hz
    subst this
    simp [Instr.fill]
  | v :: vs, pre, zs, hz, h1 => by
    cases zs with
    | nil => simp at hz
    | cons z zs =>
      have hv : v.cells = #[v] := by
        have := h1 v (List.mem_cons_self ..)
        cases v <;> first | rfl | simp [Value.oneCell'] at this
      have ih := fill_one vs (pre ++ [v]) zs (by simpa using hz) (fun u hu => h1 u (List.mem_cons_of_mem _ hu))
      simp only [List.length_append, List.length_cons, List.length_nil, Nat.zero_add, List.append_assoc, List.singleton_append] at ih
      simp only [List.length_cons, List.range'_succ, List.zip_cons_cons, Instr.fill, hv, Nat.mul_one]
      rw [if_neg (by simp)]
      have e2 : (Array.zipIdx #[v]).foldl (fun cs (x : Value × Nat) => cs.setIfInBounds (pre.length + x.2) x.1) (pre ++ z :: zs).toArray = (pre ++ v :: zs).toArray := by
        simp
      simpa using (congrArg (fun cs => Instr.fill (fun i => some (i * 1, 1)) cs ((List.range' (pre.length + 1) vs.length).zip vs)) e2).trans ih

theorem WL.buildSlice {xs : List Operand} {vs : List Value} {bytes : Nat} (E : Elem P t e 1 bytes) (M : Mem w0 w L) (hxs : evs ρ xs = some vs) (h1 : ∀ v ∈ vs, v.oneCell' = true) (hl : vs.length ≤ 1000) (hd : Nat.blt d n = true)
    (kk : ∀ g w', Mem w0 w' (Asr.own e 1 (some ⟨g, 0, none⟩) vs.length vs.length vs :: L) → Y.S rest ((d, .slice (some ⟨g, 0, none⟩) vs.length vs.length) :: ρ) w') :
    Y.S (⟨some d, .buildSlice t vs.length ((List.range' 0 xs.length).zip xs).toArray, ty, pos, aft, none⟩ :: rest) ρ w := by
  obtain ⟨inf, z, hi, hz, hsz, hby, hzs⟩ := E.info
  have M1 := M.alloc (.cells vs.toArray e)
  have M2 : Mem w0 _ (Asr.own e 1 (some ⟨w.heap.size, 0, none⟩) vs.length vs.length vs :: L) :=
    Mem.rowOwn (g := w.heap.size) (cs := vs) M1 [] (by simp) (by simp) (by simp) (by simp only [maxLen]; omega) (Nat.le_refl _)
  refine WL.valW (v := .slice (some ⟨w.heap.size, 0, none⟩) vs.length vs.length) rfl rfl hd (fun a ha => ?_) (kk _ _ M2)
  have hev := ha.evals hxs
  have hlen : xs.length = vs.length := by rw [← hev]; simp
  have hparts : ((List.range' 0 xs.length).zip xs).map (fun (x : Nat × Operand) => (x.1, a.eval x.2)) = (List.range' 0 vs.length).zip vs := by
    rw [hlen, ← hev]
    simp [List.zip_map_right]
  have hf : ∀ zs : List Value, zs.length = vs.length → Instr.fill (fun i => some (i, 1)) zs.toArray ((List.range' 0 vs.length).zip vs) = some vs.toArray := fun zs hzl => by
    have := fill_one vs [] zs hzl h1
    simpa using this
  by_cases h0 : vs.length = 0
  · have hv0 : vs = [] := List.eq_nil_of_length_eq_zero h0
    have hx0 : xs = [] := List.eq_nil_of_length_eq_zero (by omega)
    subst hv0 hx0
    simp [execOp, Instr.buildSlice, run_underlying E.und, sizeOf, typeInfo, hi, Instr.fill, newRow, Array.range_zero']
  · have hzero : ((Array.range vs.length).map fun (i : Nat) => (z.cells)[i % z.cells.size]!).toList.length = vs.length := by simp
    have hf' := hf _ hzero
    simp only [Array.toArray_toList] at hf'
    simp only [execOp, Instr.buildSlice, run_underlying E.und, Sem.run_bind, Result.andThen_ok, sizeOf, typeInfo, run_program, hi, Sem.run_pure, hsz, Nat.mul_one, Sem.run_ite]
    rw [if_neg (by omega), if_neg h0]
    simp [zeroValue, typeInfo, hi, hz, hparts, hf', newRow]

/-- A slice literal of one-cell values; or the empty one. -/
theorem WL.buildS {parts : Array (Nat × Operand)} {len : Nat} {vs : List Value} {bytes : Nat} (E : Elem P t e 1 bytes) (M : Mem w0 w L) (hxs : evs ρ (parts.toList.map (·.2)) = some vs)
    (hp : parts.toList = (List.range' 0 (parts.toList.map (·.2)).length).zip (parts.toList.map (·.2))) (hlen : len = vs.length) (h1 : ∀ v ∈ vs, v.oneCell' = true) (hl : Nat.ble len 1000 = true) (hd : Nat.blt d n = true)
    (kk : ∀ g w', Mem w0 w' (Asr.own e 1 (some ⟨g, 0, none⟩) len len vs :: L) → Y.S rest ((d, .slice (some ⟨g, 0, none⟩) len len) :: ρ) w') :
    Y.S (⟨some d, .buildSlice t len parts, ty, pos, aft, none⟩ :: rest) ρ w := by
  subst hlen
  have hpa : parts = ((List.range' 0 (parts.toList.map (·.2)).length).zip (parts.toList.map (·.2))).toArray := by
    rw [← hp]
  rw [hpa]
  exact WL.buildSlice E M hxs h1 (Nat.le_of_ble_eq_true hl) hd kk

/-- 'make([]T, j)', one cell an element. -/
theorem WL.make {bytes : Nat} {z0 : Value} {kl kc : IntKind} (E : Elem P t e 1 bytes) (hz : ∀ w, (zeroValue e).run P w = .ok z0 w) (M : Mem w0 w L) (hx : ev ρ x = some (.int kl j)) (hy : ev ρ y = some (.int kc j)) (h0 : 0 ≤ j) (hz0 : z0.cells = #[z0]) (hb : bytes * j.toNat ≤ 281474976710656)
    (hm : j ≤ 9223372036854775807) (hd : Nat.blt d n = true)
    (kk : ∀ g w', Mem w0 w' (Asr.row g e (List.replicate j.toNat z0) :: L) → Y.S rest ((d, .slice (some ⟨g, 0, none⟩) j.toNat j.toNat) :: ρ) w') :
    Y.S (⟨some d, .makeSlice t x y, ty, pos, aft, none⟩ :: rest) ρ w := by
  obtain ⟨m, rfl⟩ := Int.eq_ofNat_of_zero_le h0
  simp only [Int.toNat_natCast] at *
  obtain ⟨inf, z, hi, hzz, hsz, hby, hzs⟩ := E.info
  have hzv : z = z0 := by
    have := hz w
    simp [zeroValue, typeInfo, hi, hzz] at this
    exact this
  subst hzv
  have hr := run_make (P := P) w t e inf z E.und hi hzz kl kc m m (by omega) (Int.le_refl _) (by
    have h : ((bytes * m : Nat) : Int) ≤ 281474976710656 := by omega
    rw [hby]
    rwa [Int.natCast_mul] at h) (by omega)
  have M1 := M.alloc (.cells (madeCells z.cells (m * inf.size)) e)
  have M2 : Mem w0 (w.alloc (.cells (madeCells z.cells (m * inf.size)) e)) (Asr.row w.heap.size e (List.replicate m z) :: L) := by
    have e1 : madeCells z.cells (m * inf.size) = (List.replicate m z).toArray := by
      apply Array.ext'
      rw [hz0, toList_madeCells_one, hsz, Nat.mul_one]
    rw [Asr.row, ← e1]
    exact M1
  refine WL.valW rfl rfl hd (fun a ha => ?_) (kk w.heap.size _ M2)
  simp only [Int.toNat_natCast] at hr
  simp [execOp, ha.eval hx, ha.eval hy, hr]
end
end Go.Proofs.Ytkdkdaljgoibaaa
