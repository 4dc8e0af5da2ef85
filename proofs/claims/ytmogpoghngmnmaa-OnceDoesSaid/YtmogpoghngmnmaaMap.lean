/-
  Maps: what stands in one, and the operations on it. Generic in the program.
-/
import Derived.Test.YtmogpoghngmnmaaWalk
import Derived.MapKept
namespace Go.Proofs.Ytmogpoghngmnmaa
open Go Go.RowKit Go.MapKept

/-- How keys and values lie in a map. -/
structure MapE (κ α : Type) where
  kv : κ → Value
  f : α → Value
  d : TypeDesc
  key : ∀ a, IsKey d (kv a)
  inj : ∀ a b, kv a = kv b → a = b

section
variable {κ α : Type} [DecidableEq κ]
def mfind : List (κ × α) → κ → Nat → Option (Nat × α)
  | [], _, _ => none
  | (k', a) :: r, k, i => if k' = k then some (i, a) else mfind r k (i + 1)
def mget (ms : List (κ × α)) (k : κ) : Option α := (mfind ms k 0).map (·.2)
def mput (ms : List (κ × α)) (k : κ) (a : α) : List (κ × α) := match mfind ms k 0 with | some (j, _) => ms.set j (k, a) | none => ms ++ [(k, a)]
def mdel (ms : List (κ × α)) (k : κ) : List (κ × α) := match mfind ms k 0 with | some (j, _) => ms.eraseIdx j | none => ms

theorem mfind_shift : ∀ (ms : List (κ × α)) (k : κ) (i : Nat), mfind ms k i = (mfind ms k 0).map fun p => (i + p.1, p.2)
  | [], _, _ => rfl
  | (k', a) :: r, k, i => by
    unfold mfind
    split
    · rfl
    · rw [mfind_shift r k (i + 1), mfind_shift r k (0 + 1)]
      cases mfind r k 0 with
      | none => rfl
      | some p => simp; omega
theorem mget_cons (k' : κ) (a : α) (r : List (κ × α)) (k : κ) : mget ((k', a) :: r) k = if k' = k then some a else mget r k := by
  unfold mget
  rw [mfind]
  split
  · rfl
  · rw [mfind_shift]
    cases mfind r k 0 <;> rfl
theorem mget_nil (k : κ) : mget ([] : List (κ × α)) k = none := rfl
theorem mput_nil (k : κ) (a : α) : mput [] k a = [(k, a)] := rfl
theorem mput_cons (k' : κ) (b : α) (r : List (κ × α)) (k : κ) (a : α) : mput ((k', b) :: r) k a = if k' = k then (k, a) :: r else (k', b) :: mput r k a := by
  unfold mput
  rw [mfind]
  by_cases h : k' = k
  · simp [h]
  · rw [if_neg h, if_neg h, mfind_shift]
    cases mfind r k 0 with
    | none => rfl
    | some p => simp [Nat.add_comm]
theorem mdel_nil (k : κ) : mdel ([] : List (κ × α)) k = [] := rfl
theorem mdel_cons (k' : κ) (b : α) (r : List (κ × α)) (k : κ) : mdel ((k', b) :: r) k = if k' = k then r else (k', b) :: mdel r k := by
  unfold mdel
  rw [mfind]
  by_cases h : k' = k
  · simp [h]
  · rw [if_neg h, if_neg h, mfind_shift]
    cases mfind r k 0 with
    | none => rfl
    | some p => simp [Nat.add_comm]
theorem mget_mput (ms : List (κ × α)) (k : κ) (a : α) (k2 : κ) : mget (mput ms k a) k2 = if k = k2 then some a else mget ms k2 := by
  induction ms with
  | nil => rw [mput_nil, mget_cons]
  | cons p r ih =>
    obtain ⟨k', b⟩ := p
    rw [mput_cons]
    by_cases h : k' = k
    · subst h
      rw [if_pos rfl, mget_cons, mget_cons]
      split <;> rfl
    · rw [if_neg h, mget_cons, ih, mget_cons]
      by_cases h2 : k = k2
      · subst h2; rw [if_neg h, if_pos rfl, if_pos rfl]
      · rw [if_neg h2, if_neg h2]
theorem mget_none {ms : List (κ × α)} {k : κ} (h : k ∉ ms.map (·.1)) : mget ms k = none := by
  induction ms with
  | nil => rfl
  | cons p r ih =>
    obtain ⟨k', b⟩ := p
    simp only [List.map_cons, List.mem_cons, not_or] at h
    rw [mget_cons, if_neg (fun e => h.1 e.symm), ih h.2]
theorem mget_mem {ms : List (κ × α)} {k : κ} {a : α} (h : mget ms k = some a) : (k, a) ∈ ms := by
  induction ms with
  | nil => cases h
  | cons p r ih =>
    obtain ⟨k', b⟩ := p
    rw [mget_cons] at h
    split at h
    · rename_i e
      subst e
      cases h
      exact List.mem_cons_self ..
    · exact List.mem_cons_of_mem _ (ih h)
theorem mput_keys {ms : List (κ × α)} {k : κ} {a : α} : (mput ms k a).map (·.1) = if (mget ms k).isSome then ms.map (·.1) else ms.map (·.1) ++ [k] := by
  induction ms with
  | nil => rfl
  | cons p r ih =>
    obtain ⟨k', b⟩ := p
    rw [mput_cons, mget_cons]
    by_cases h : k' = k
    · subst h; simp
    · rw [if_neg h, if_neg h, List.map_cons, ih]
      split <;> simp
theorem mdel_sub (ms : List (κ × α)) (k : κ) : (mdel ms k).Sublist ms := by
  induction ms with
  | nil => exact List.Sublist.refl _
  | cons p r ih =>
    obtain ⟨k', b⟩ := p
    rw [mdel_cons]
    split
    · exact List.sublist_cons_self ..
    · exact ih.cons_cons _
theorem mget_mdel {ms : List (κ × α)} (hn : (ms.map (·.1)).Nodup) (k k2 : κ) : mget (mdel ms k) k2 = if k = k2 then none else mget ms k2 := by
  induction ms with
  | nil => rw [mdel_nil]; split <;> rfl
  | cons p r ih =>
    obtain ⟨k', b⟩ := p
    simp only [List.map_cons, List.nodup_cons] at hn
    rw [mdel_cons]
    by_cases h : k' = k
    · subst h
      rw [if_pos rfl, mget_cons]
      by_cases h2 : k' = k2
      · subst h2; rw [if_pos rfl]; exact mget_none hn.1
      · rw [if_neg h2, if_neg h2]
    · rw [if_neg h, mget_cons, ih hn.2, mget_cons]
      by_cases h2 : k = k2
      · subst h2; rw [if_neg h, if_pos rfl, if_pos rfl]
      · rw [if_neg h2, if_neg h2]
end

section
variable {κ α β : Type} [DecidableEq κ]
/-- Each value through f. -/
def mmap (f : α → β) (ms : List (κ × α)) : List (κ × β) := ms.map fun p => (p.1, f p.2)
theorem mget_mmap (f : α → β) (ms : List (κ × α)) (k : κ) : mget (mmap f ms) k = (mget ms k).map f := by
  induction ms with
  | nil => rfl
  | cons p r ih =>
    obtain ⟨k', b⟩ := p
    rw [mget_cons]
    show mget ((k', f b) :: mmap f r) k = _
    rw [mget_cons, ih]
    split <;> rfl
theorem mput_mmap (f : α → β) (ms : List (κ × α)) (k : κ) (a : α) : mput (mmap f ms) k (f a) = mmap f (mput ms k a) := by
  induction ms with
  | nil => rfl
  | cons p r ih =>
    obtain ⟨k', b⟩ := p
    rw [mput_cons]
    show mput ((k', f b) :: mmap f r) k (f a) = _
    rw [mput_cons, ih]
    split <;> rfl
theorem mdel_mmap (f : α → β) (ms : List (κ × α)) (k : κ) : mdel (mmap f ms) k = mmap f (mdel ms k) := by
  induction ms with
  | nil => rfl
  | cons p r ih =>
    obtain ⟨k', b⟩ := p
    rw [mdel_cons]
    show mdel ((k', f b) :: mmap f r) k = _
    rw [mdel_cons, ih]
    split <;> rfl
theorem mdel_perm {ms : List (κ × α)} {k : κ} {a : α} (h : mget ms k = some a) : ms.Perm ((k, a) :: mdel ms k) := by
  induction ms with
  | nil => cases h
  | cons p r ih =>
    obtain ⟨k', b⟩ := p
    rw [mget_cons] at h
    rw [mdel_cons]
    by_cases e : k' = k
    · subst e
      rw [if_pos rfl] at h ⊢
      cases h
      exact List.Perm.refl _
    · rw [if_neg e] at h ⊢
      exact (List.Perm.cons _ (ih h)).trans (List.Perm.swap ..)
theorem mput_new {ms : List (κ × α)} {k : κ} {a : α} (h : mget ms k = none) : mput ms k a = ms ++ [(k, a)] := by
  unfold mget at h
  unfold mput
  cases hf : mfind ms k 0 with
  | none => rfl
  | some p => rw [hf] at h; cases h
theorem mget_notin {ms : List (κ × α)} {k : κ} (h : mget ms k = none) : k ∉ ms.map (·.1) := by
  induction ms with
  | nil => simp
  | cons p r ih =>
    obtain ⟨k', b⟩ := p
    rw [mget_cons] at h
    split at h
    · cases h
    · rename_i e
      simp only [List.map_cons, List.mem_cons, not_or]
      exact ⟨fun e2 => e e2.symm, ih h⟩
theorem mdel_nodup {ms : List (κ × α)} (hn : (ms.map (·.1)).Nodup) (k : κ) : ((mdel ms k).map (·.1)).Nodup := hn.sublist ((mdel_sub ms k).map _)
theorem mput_nodup {ms : List (κ × α)} (hn : (ms.map (·.1)).Nodup) (k : κ) (a : α) : ((mput ms k a).map (·.1)).Nodup := by
  rw [mput_keys]
  cases h : mget ms k with
  | some b => exact hn
  | none =>
    have := mget_notin h
    simp only [Option.isSome_none, Bool.false_eq_true, if_false]
    rw [List.nodup_append]
    exact ⟨hn, by simp, fun a ha b hb => by rw [List.mem_singleton] at hb; subst hb; exact fun e => this (e ▸ ha)⟩
end

theorem map_eraseIdx' {β γ : Type} (f : β → γ) : ∀ (l : List β) (j : Nat), (l.eraseIdx j).map f = (l.map f).eraseIdx j
  | [], _ => rfl
  | _ :: _, 0 => rfl
  | x :: l, j + 1 => by simp [map_eraseIdx' f l j]

/-- Block g is a map that holds ms. -/
def Asr.mp {κ α : Type} (E : MapE κ α) (g : Nat) (ms : List (κ × α)) : Asr where
  foot := fun k => k = g
  holds := fun w => ∃ arr clock, w.heap[g]? = some (.map arr clock) ∧ arr.toList.map (fun e => (e.key, e.val)) = ms.map fun p => (E.kv p.1, E.f p.2)
  bound := fun w ⟨_, _, h, _⟩ k hk => by subst hk; exact (Array.getElem?_eq_some_iff.1 h).1
  stays := fun w w' h ⟨arr, clock, h1, h2⟩ => ⟨arr, clock, by rw [h g rfl]; exact h1, h2⟩

section
variable {κ α : Type} [DecidableEq κ] {E : MapE κ α}

theorem findNow_mfind : ∀ (l : List MapEntry) (ms : List (κ × α)) (k : κ) (i : Nat), l.map (fun e => (e.key, e.val)) = ms.map (fun p => (E.kv p.1, E.f p.2)) →
    Instr.findNow E.d (E.kv k) l i = some ((mfind ms k i).map fun p => (p.1, E.f p.2))
  | [], [], _, _, _ => rfl
  | [], _ :: _, _, _, h => by simp at h
  | _ :: _, [], _, _, h => by simp at h
  | e :: l, (k', a) :: ms, k, i, h => by
    simp only [List.map_cons, List.cons.injEq, Prod.mk.injEq] at h
    obtain ⟨⟨h1, h2⟩, h3⟩ := h
    obtain ⟨r, hr, hiff⟩ := sameNow_of_keys (E.key k) (h1 ▸ E.key k')
    have ih := findNow_mfind l ms k (i + 1) h3
    by_cases hk : k' = k
    · subst hk
      have hrt : r = true := hiff.2 h1.symm
      subst hrt
      simp [Instr.findNow, hr, mfind, h2]
    · have hrf : r = false := by
        cases r with
        | false => rfl
        | true => exact absurd (E.inj _ _ (h1.symm.trans (hiff.1 rfl).symm)) hk
      subst hrf
      simp [Instr.findNow, hr, mfind, hk, ih]
theorem mfind_lt : ∀ (ms : List (κ × α)) (k : κ) (i j : Nat) (a : α), mfind ms k i = some (j, a) → i ≤ j ∧ j < i + ms.length ∧ ms[j - i]? = some (k, a)
  | [], _, _, _, _, h => by cases h
  | (k', b) :: ms, k, i, j, a, h => by
    unfold mfind at h
    split at h
    · rename_i e
      subst e
      cases h
      simp
    · obtain ⟨h1, h2, h3⟩ := mfind_lt ms k (i + 1) j a h
      refine ⟨by omega, by simp; omega, ?_⟩
      rw [show j - i = (j - (i + 1)) + 1 by omega]
      simpa using h3
end

section
variable {P : Program} {n : Nat} {ρ : List (Nat × Value)} {w0 w : World} {rest : List Oper} {L L' : List Asr} {X : SqV P n} {Y : Sq P n}
variable {d : Nat} {ty : TypeId} {pos : String} {aft : Array Edge} {x y z : Operand} {t kt et : TypeId} {κ α : Type} [DecidableEq κ] {E : MapE κ α}

omit [DecidableEq κ] in
theorem Mem.mapSet {g : Nat} {ms ms' : List (κ × α)} {arr : Array MapEntry} {clock : Nat} (M : Mem w0 w (Asr.mp E g ms :: L)) (h : arr.toList.map (fun e => (e.key, e.val)) = ms'.map fun p => (E.kv p.1, E.f p.2)) :
    Mem w0 { w with heap := w.heap.setIfInBounds g (.map arr clock) } (Asr.mp E g ms' :: L) := by
  obtain ⟨arr0, clock0, hg, _⟩ := M.head
  obtain ⟨h1, h2⟩ := heap_set (o' := .map arr clock) hg
  exact M.write ⟨rfl, rfl, rfl, by simp, fun k _ hk => h2 k (fun e => hk e)⟩ ⟨arr, clock, h1, h⟩ (fun _ hf => .inl hf)

omit [DecidableEq κ] in
theorem WL.makeMap (E : MapE κ α) (M : Mem w0 w L) (hd : Nat.blt d n = true) (kk : ∀ g w', Mem w0 w' (Asr.mp E g [] :: L) → Y.S rest ((d, .map (some g)) :: ρ) w') :
    Y.S (⟨some d, .makeMap t none, ty, pos, aft, none⟩ :: rest) ρ w := by
  have M1 := M.alloc (.map #[] 0)
  have M2 : Mem w0 (w.alloc (.map #[] 0)) (Asr.mp E w.heap.size [] :: L) := M1.weak ⟨#[], 0, Go.heap_alloc_new w _, rfl⟩ (fun _ h => h)
  exact WL.valW rfl rfl hd (fun a ha => by simp [execOp, run_makeMap]) (kk _ _ M2)

theorem WL.lookup {g : Nat} {ms : List (κ × α)} {k : κ} {zv : Value} (ht : P.underlying t = some (.map kt et)) (hkt : P.underlying kt = some E.d) (hz : ∀ w, (zeroValue et).run P w = .ok zv w) (hx : ev ρ x = some (.map (some g))) (hy : ev ρ y = some (E.kv k))
    (M : Mem w0 w L) (h : Has (Asr.mp E g ms) L) (hd : Nat.blt d n = true)
    (kk : X.S rest ((d, .tuple [(mget ms k).elim zv E.f, .bool (mget ms k).isSome].toArray) :: ρ) w) : X.S (⟨some d, .lookup t x y true, ty, pos, aft, none⟩ :: rest) ρ w := by
  obtain ⟨arr, clock, hg, hes⟩ := M.has h
  refine WL.val rfl rfl hd (fun a ha => ?_) kk
  have h1 := run_findKey (P := P) (w := w) hkt (findNow_mfind arr.toList ms k 0 hes)
  have h2 := run_checkKey (P := P) (w := w) hkt (E.key k) arr.isEmpty 9999
  simp only [execOp, Instr.lookup, ha.eval hx, ha.eval hy, Sem.run_bind, run_underlying ht, Result.andThen_ok, MapKept.run_getObj_map hg, Sem.run_pure, h1, h2]
  unfold mget
  cases mfind ms k 0 with
  | none => simp [hz]
  | some p => simp

/-- The same where a value is a struct of one cell. -/
theorem WL.lookup1 {g : Nat} {ms : List (κ × α)} {k : κ} {z : Value} {h1 : α → Value} (ht : P.underlying t = some (.map kt et)) (hkt : P.underlying kt = some E.d) (hz : ∀ w, (zeroValue et).run P w = .ok (.agg [z].toArray) w) (hf : ∀ a, E.f a = .agg [h1 a].toArray) (hx : ev ρ x = some (.map (some g))) (hy : ev ρ y = some (E.kv k))
    (M : Mem w0 w L) (h : Has (Asr.mp E g ms) L) (hd : Nat.blt d n = true)
    (kk : X.S rest ((d, .tuple [.agg [(mget ms k).elim z h1].toArray, .bool (mget ms k).isSome].toArray) :: ρ) w) : X.S (⟨some d, .lookup t x y true, ty, pos, aft, none⟩ :: rest) ρ w := by
  refine WL.lookup ht hkt hz hx hy M h hd ?_
  have : (mget ms k).elim (.agg [z].toArray) E.f = .agg [(mget ms k).elim z h1].toArray := by
    cases mget ms k with
    | none => rfl
    | some a => exact hf a
  rw [this]
  exact kk

theorem WL.mapUpdate {g : Nat} {ms : List (κ × α)} {k : κ} {a : α} (ht : P.underlying t = some (.map kt et)) (hkt : P.underlying kt = some E.d) (hx : ev ρ x = some (.map (some g))) (hy : ev ρ y = some (E.kv k)) (hz : ev ρ z = some (E.f a))
    (M : Mem w0 w L) (_ : Has (Asr.mp E g ms) L) (h : Upd (Asr.mp E g ms) (Asr.mp E g (mput ms k a)) L L') (kk : ∀ w', Mem w0 w' L' → Y.S rest ρ w') :
    Y.S (⟨none, .mapUpdate t x y z, ty, pos, aft, none⟩ :: rest) ρ w := by
  obtain ⟨K, p1, p2⟩ := h.perm
  have M1 := M.perm p1
  obtain ⟨arr, clock, hg, hes⟩ := M1.head
  have h1 := run_findKey (P := P) (w := w) hkt (findNow_mfind arr.toList ms k 0 hes)
  have h2 := run_checkKey (P := P) (w := w) hkt (E.key k) false 9999
  have hlen : arr.size = ms.length := by simpa using congrArg List.length hes
  cases hf : mfind ms k 0 with
  | none =>
    rw [hf] at h1
    have e : (arr.push { key := E.kv k, val := E.f a, born := clock }).toList.map (fun e => (e.key, e.val)) = (mput ms k a).map fun p => (E.kv p.1, E.f p.2) := by
      unfold mput
      rw [hf]
      simp [hes]
    refine WL.unit rfl rfl (fun f hfr => ?_) (kk _ ((M1.mapSet (clock := clock + 1) e).perm p2.symm))
    simp [execOp, Instr.mapUpdate, hfr.eval hx, hfr.eval hy, hfr.eval hz, run_underlying ht, MapKept.run_getObj_map hg, h1, h2, MapKept.run_setObj_map _ hg]
  | some p =>
    obtain ⟨j, b⟩ := p
    rw [hf] at h1
    obtain ⟨_, hj, hjk⟩ := mfind_lt ms k 0 j b hf
    simp only [Nat.zero_add, Nat.sub_zero] at hj hjk
    have hkey : arr[j].key = E.kv k := by
      have := congrArg (fun l => l[j]?) hes
      simp only [List.getElem?_map, hjk, Array.getElem?_toList, Array.getElem?_eq_getElem (show j < arr.size by omega), Option.map_some, Option.some.injEq, Prod.mk.injEq] at this
      exact this.1
    have e : (arr.modify j fun e => { e with key := E.kv k, val := E.f a }).toList.map (fun e => (e.key, e.val)) = (mput ms k a).map fun p => (E.kv p.1, E.f p.2) := by
      unfold mput
      rw [hf]
      apply List.ext_getElem?
      intro i
      have hi := congrArg (fun l => l[i]?) hes
      simp only [List.getElem?_map, Array.getElem?_toList] at hi
      simp only [List.getElem?_map, Array.getElem?_toList, Array.getElem?_modify, List.getElem?_set]
      by_cases hij : j = i
      · subst hij
        simp [hj, Array.getElem?_eq_getElem (show j < arr.size by omega)]
      · simp only [hij, if_false]
        exact hi
    refine WL.unit rfl rfl (fun f hfr => ?_) (kk _ ((M1.mapSet (clock := clock) e).perm p2.symm))
    have h3 : ((arr[j]?).map (·.key)).getD (E.kv k) = E.kv k := by rw [Array.getElem?_eq_getElem (show j < arr.size by omega)]; exact hkey
    simp [execOp, Instr.mapUpdate, hfr.eval hx, hfr.eval hy, hfr.eval hz, run_underlying ht, MapKept.run_getObj_map hg, h1, h2, MapKept.run_setObj_map _ hg, h3, run_keyThatStays (E.key k)]

theorem WL.valU {o : Oper} {v : Value} {w' : World} (hg : o.guard = none) (hdst : o.dst = none)
    (hrun : ∀ a, St n ρ a → (execOp a.eval o).run P w = .ok (.value v) w') (k : Y.S rest ρ w') : Y.S (o :: rest) ρ w :=
  Y.step_ hg fun K hK a ha => by
    unfold Oper.wp
    rw [hrun a ha, Oper.upon_value, hdst]
    exact hK _ _ _ ha k

theorem WL.mapDelete {g : Nat} {ms : List (κ × α)} {k : κ} {t2 : TypeId} (ht : P.underlying t = some (.map kt et)) (hkt : P.underlying kt = some E.d) (hx : ev ρ x = some (.map (some g))) (hy : ev ρ y = some (E.kv k))
    (M : Mem w0 w L) (_ : Has (Asr.mp E g ms) L) (h : Upd (Asr.mp E g ms) (Asr.mp E g (mdel ms k)) L L') (kk : ∀ w', Mem w0 w' L' → Y.S rest ρ w') :
    Y.S (⟨none, .call ⟨.builtin .delete, #[x, y], #[t, t2]⟩, ty, pos, aft, none⟩ :: rest) ρ w := by
  obtain ⟨K, p1, p2⟩ := h.perm
  have M1 := M.perm p1
  obtain ⟨arr, clock, hg, hes⟩ := M1.head
  have h1 := run_findKey (P := P) (w := w) hkt (findNow_mfind arr.toList ms k 0 hes)
  have h2 := run_checkKey (P := P) (w := w) hkt (E.key k) arr.isEmpty 9999
  have hlen : arr.size = ms.length := by simpa using congrArg List.length hes
  cases hf : mfind ms k 0 with
  | none =>
    rw [hf] at h1
    have e : arr.toList.map (fun e => (e.key, e.val)) = (mdel ms k).map fun p => (E.kv p.1, E.f p.2) := by
      unfold mdel
      rw [hf]
      exact hes
    refine WL.valU (v := .tuple #[]) rfl rfl (fun f hfr => ?_) (kk _ ((M1.mapSet (clock := clock) e).perm p2.symm))
    simp [execOp, resolve, invoke, builtin, Builtin.delete_, hfr.eval hx, hfr.eval hy, run_underlying ht, MapKept.run_getObj_map hg, h1, h2, MapKept.run_setObj_map _ hg]
  | some p =>
    obtain ⟨j, b⟩ := p
    rw [hf] at h1
    obtain ⟨_, hj, hjk⟩ := mfind_lt ms k 0 j b hf
    simp only [Nat.zero_add, Nat.sub_zero] at hj hjk
    have e : (arr.eraseIdxIfInBounds j).toList.map (fun e => (e.key, e.val)) = (mdel ms k).map fun p => (E.kv p.1, E.f p.2) := by
      unfold mdel
      rw [hf]
      have e1 : (arr.eraseIdxIfInBounds j).toList = arr.toList.eraseIdx j := by simp [Array.eraseIdxIfInBounds, show j < arr.size by omega]
      rw [e1, map_eraseIdx', map_eraseIdx', hes]
    refine WL.valU (v := .tuple #[]) rfl rfl (fun f hfr => ?_) (kk _ ((M1.mapSet (clock := clock) e).perm p2.symm))
    simp [execOp, resolve, invoke, builtin, Builtin.delete_, hfr.eval hx, hfr.eval hy, run_underlying ht, MapKept.run_getObj_map hg, h1, h2, MapKept.run_setObj_map _ hg]

omit [DecidableEq κ] in
theorem WL.mapClear {g : Nat} {ms : List (κ × α)} (ht : P.underlying t = some (.map kt et)) (hx : ev ρ x = some (.map (some g)))
    (M : Mem w0 w L) (_ : Has (Asr.mp E g ms) L) (h : Upd (Asr.mp E g ms) (Asr.mp E g []) L L') (kk : ∀ w', Mem w0 w' L' → Y.S rest ρ w') :
    Y.S (⟨none, .call ⟨.builtin .clear, #[x], #[t]⟩, ty, pos, aft, none⟩ :: rest) ρ w := by
  obtain ⟨K, p1, p2⟩ := h.perm
  have M1 := M.perm p1
  obtain ⟨arr, clock, hg, hes⟩ := M1.head
  refine WL.valU (v := .tuple #[]) rfl rfl (fun f hfr => ?_) (kk _ ((M1.mapSet (arr := #[]) (clock := clock) (ms' := []) rfl).perm p2.symm))
  simp [execOp, resolve, invoke, builtin, Builtin.clear_, hfr.eval hx, run_underlying ht, MapKept.run_getObj_map hg, MapKept.run_setObj_map _ hg]
end

/-- Keys that are numbers. -/
def u64M {α : Type} (f : α → Value) : MapE Nat α := ⟨fun k => .int .u64 (k : Int), f, .int .u64, fun _ => rfl, fun a b h => by injection h with _ h2; omega⟩
end Go.Proofs.Ytmogpoghngmnmaa
