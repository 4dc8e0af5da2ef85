/-
  What arguments read as: lists of whatever things. Generic in the program.
-/
import Derived.Test.YtkdkdaljgoibaaaLift
import Derived.Test.YtkdkdaljgoibaaaWalk
import Derived.Deep.Slices
namespace Go.Proofs.Ytkdkdaljgoibaaa
open Go Go.RowKit Go.ChangeShapes Go.WideShapes Go.ChangeAt

section
variable {H : Type} {enc : TypeId × Value → H} {P : Program} {W : World} {base fuel : Nat} {sp : Nat → Bool} {held : Bool} {t e : TypeId} {cs : List Value} {x : DataW H × List MemPlace}

/-- The parts of a struct. -/
theorem in_struct {fs : Array Field} (ht : P.underlying t = some (.struct fs)) (h : DataW.trod enc P W base sp held fuel t cs = some x) :
    cs.length = P.cellsOf t ∧ ∃ m, ∀ (i : Nat) (f : Field), fs[i]? = some f → ∃ y, DataW.trod enc P W base sp held m f.type ((cs.drop f.offset).take (P.cellsOf f.type)) = some y := by
  obtain ⟨xs, m, rfl, rfl, hl, hlen, hf⟩ := DataW.trod_struct ht h
  refine ⟨hl, m, fun i f hi => ?_⟩
  have hlt : i < xs.length := by rw [hlen]; exact (Array.getElem?_eq_some_iff.1 hi).1
  exact ⟨xs[i], by rw [hf i f hi, List.getElem?_eq_getElem hlt]⟩

theorem in_fields {fs : List Field} (ht : P.underlying t = some (.struct fs.toArray)) (h : DataW.trod enc P W base sp held fuel t cs = some x) :
    cs.length = P.cellsOf t ∧ ∃ m, ∀ (i : Nat) (f : Field), fs[i]? = some f → ∃ y, DataW.trod enc P W base sp held m f.type ((cs.drop f.offset).take (P.cellsOf f.type)) = some y := by
  obtain ⟨h1, m, h2⟩ := in_struct ht h
  exact ⟨h1, m, fun i f hi => h2 i f (by simpa using hi)⟩

theorem in_u8 (ht : P.underlying t = some (.int .u8)) (h : DataW.trod enc P W base sp held fuel t cs = some x) : ∃ b : UInt8, cs = [.int .u8 (b.toNat : Int)] := by
  obtain ⟨n, rfl, _, hw⟩ := DataW.trod_int ht h
  have hb := bounds_u8 hw
  refine ⟨UInt8.ofNat n.toNat, ?_⟩
  rw [UInt8.toNat_ofNat']
  congr 2
  omega
theorem in_u32 (ht : P.underlying t = some (.int .u32)) (h : DataW.trod enc P W base sp held fuel t cs = some x) : ∃ n : Nat, cs = [.int .u32 (n : Int)] ∧ n < 4294967296 := by
  obtain ⟨n, rfl, _, hw⟩ := DataW.trod_int ht h
  have hb := bounds_u32 hw
  exact ⟨n.toNat, by rw [Int.toNat_of_nonneg (by omega)], by omega⟩
theorem in_u64 (ht : P.underlying t = some (.int .u64)) (h : DataW.trod enc P W base sp held fuel t cs = some x) : ∃ n : Nat, cs = [.int .u64 (n : Int)] ∧ n < 18446744073709551616 := by
  obtain ⟨n, rfl, _, hw⟩ := DataW.trod_int ht h
  have hb := bounds_u64 hw
  exact ⟨n.toNat, by rw [Int.toNat_of_nonneg (by omega)], by omega⟩
theorem in_i64 (ht : P.underlying t = some (.int .i64)) (h : DataW.trod enc P W base sp held fuel t cs = some x) : ∃ n : Int, cs = [.int .i64 n] ∧ -9223372036854775808 ≤ n ∧ n ≤ 9223372036854775807 := by
  obtain ⟨n, rfl, _, hw⟩ := DataW.trod_int ht h
  have hb := bounds_i64 hw
  exact ⟨n, rfl, hb.1, hb.2⟩
theorem in_bool (ht : P.underlying t = some .bool) (h : DataW.trod enc P W base sp held fuel t cs = some x) : ∃ b : Bool, cs = [.bool b] := by
  obtain ⟨b, rfl, _⟩ := DataW.trod_bool ht h
  exact ⟨b, rfl⟩
theorem in_string (ht : P.underlying t = some .string) (h : DataW.trod enc P W base sp held fuel t cs = some x) : ∃ l : List UInt8, cs = [str l] ∧ l.length ≤ maxLen := by
  obtain ⟨s, rfl, _, hs⟩ := DataW.trod_string ht h
  exact ⟨s.data.toList, by simp [str], by
    have h1 : s.data.toList.length = s.size := Array.length_toList
    rw [h1]
    exact hs⟩

/-- A list of things. -/
theorem in_list {α : Type} {E : Enc α} {Q : α → Prop} (ht : P.underlying t = some (.slice e)) (hc : P.cellsOf e = E.size)
    (hdec : ∀ (m : Nat) (cs : List Value) (x : DataW H × List MemPlace), DataW.trod enc P W base sp held m e cs = some x → ∃ a, cs = E.cells a ∧ Q a)
    (h : DataW.trod enc P W base sp held fuel t cs = some x) : ∃ A l cap, cs = [.slice A (List.length l) cap] ∧ RdL W E A cap l ∧ (∀ a ∈ l, Q a) ∧ cap ≤ maxLen := by
  rcases Deep.open_slice ht h with ⟨rfl, _⟩ | ⟨a, len, cap, m, n, D, Pl, rfl, hb, hl, hm, hmm, rfl, hx⟩
  · exact ⟨none, [], 0, rfl, RdL.nil _ _ _, (fun _ h => by cases h), Nat.zero_le _⟩
  · rw [hc] at hx
    have hlm : len ≤ m := by rw [hmm]; split <;> omega
    have hxs : ∀ i, i < len → ∃ a', W.cells? base (a.add (i * E.size)) E.size = some (E.cells a') ∧ Q a' := fun i hi => by
      obtain ⟨cs', h1, h2⟩ := hx i (by omega)
      obtain ⟨a', rfl, hq⟩ := hdec _ _ _ h2
      exact ⟨a', h1, hq⟩
    have hne : 0 < len → Nonempty α := fun h0 => by obtain ⟨a', _⟩ := hxs 0 h0; exact ⟨a'⟩
    obtain ⟨l, hll, hlx⟩ : ∃ l : List α, l.length = len ∧ ∀ i a', l[i]? = some a' → W.cells? base (a.add (i * E.size)) E.size = some (E.cells a') ∧ Q a' := by
      have key : ∀ k, k ≤ len → ∃ l : List α, l.length = k ∧ ∀ i a', l[i]? = some a' → W.cells? base (a.add (i * E.size)) E.size = some (E.cells a') ∧ Q a' := by
        intro k
        induction k with
        | zero => intro _; exact ⟨[], rfl, fun i a' h => by simp at h⟩
        | succ k ih =>
          intro hk
          obtain ⟨l, h1, h2⟩ := ih (by omega)
          obtain ⟨a', h3⟩ := hxs k (by omega)
          refine ⟨l ++ [a'], by simp [h1], fun i b hb => ?_⟩
          rw [List.getElem?_append] at hb
          split at hb
          · exact h2 i b hb
          · have hi : i - l.length = 0 := by
              have := (List.getElem?_eq_some_iff.1 hb).1
              simp at this
              omega
            rw [hi] at hb
            obtain rfl : a' = b := by simpa using hb
            obtain rfl : i = k := by omega
            exact h3
      exact key len (Nat.le_refl _)
    refine ⟨some a, l, cap, by rw [hll], ⟨E.all_length l, by rw [hll]; exact hl, fun h0 => ?_⟩, fun b hb => ?_, hm⟩
    · have hc0 := World.cells?_some (hlx 0 l[0] (List.getElem?_eq_getElem h0)).1
      have hbl : a.block < W.heap.size := by
        have h1 := hc0.2.2 0 E.pos
        rw [List.getElem?_eq_getElem (by rw [E.len]; exact E.pos)] at h1
        have := World.block_lt_of_cell? W _ h1
        rw [add_block, add_block] at this
        exact this
      refine ⟨a, rfl, hbl, fun j v hv => ?_⟩
      have hj := (List.getElem?_eq_some_iff.1 hv).1
      rw [E.all_length] at hj
      have hpos := E.pos
      have hk : j / E.size < l.length := by
        rw [Nat.div_lt_iff_lt_mul hpos]
        exact hj
      have hjo : j = j / E.size * E.size + j % E.size := by rw [Nat.mul_comm]; exact (Nat.div_add_mod j E.size).symm
      have ho : j % E.size < E.size := Nat.mod_lt _ hpos
      have h2 := World.cells?_some (hlx (j / E.size) l[j / E.size] (List.getElem?_eq_getElem hk)).1
      have h3 := h2.2.2 (j % E.size) ho
      rw [add_add, ← hjo] at h3
      rw [h3, ← hv]
      haveI : Inhabited α := ⟨l[j / E.size]⟩
      conv => rhs; rw [hjo]
      rw [E.all_get l _ _ hk ho]
      congr 2
      simp [el, hk]
    · obtain ⟨i, hi⟩ := List.mem_iff_getElem?.1 hb
      exact (hlx i b hi).2
end

/-- Bytes. -/
def byteE (e : TypeId) : Enc UInt8 := ⟨e, 1, fun b => [bv b], fun _ => rfl, (fun a v hv => by
  rw [List.mem_singleton] at hv
  subst hv
  rfl), by decide⟩
theorem byteE_all (e : TypeId) (l : List UInt8) : (byteE e).all l = bs l := by
  show l.flatMap (fun b => [bv b]) = _
  induction l with
  | nil => rfl
  | cons x l ih => rw [List.flatMap_cons, ih]; rfl
section
variable {H : Type} {enc : TypeId × Value → H} {P : Program} {W : World} {base fuel : Nat} {sp : Nat → Bool} {held : Bool} {t e : TypeId} {cs : List Value} {x : DataW H × List MemPlace}
theorem in_bytes (ht : P.underlying t = some (.slice e)) (he : P.underlying e = some (.int .u8)) (hc : P.cellsOf e = 1) (h : DataW.trod enc P W base sp held fuel t cs = some x) :
    ∃ A l cap, cs = [.slice A (List.length l) cap] ∧ RdB W A cap l ∧ cap ≤ maxLen := by
  obtain ⟨A, l, cap, rfl, hR, _, hm⟩ := in_list (E := byteE e) (Q := fun _ => True) ht hc (fun m cs x h => by
    obtain ⟨b, rfl⟩ := in_u8 he h
    exact ⟨b, rfl, trivial⟩) h
  refine ⟨A, l, cap, rfl, ?_, hm⟩
  unfold RdL at hR
  rw [byteE_all] at hR
  exact hR
/-- An argument that is one cell. -/
theorem arg_one {v : Value} {d : DataW H} {ps : List MemPlace} (hv : v.oneCell' = true) (h : DataW.Trod enc P W base sp held t v d ps) : ∃ fuel x, DataW.trod enc P W base sp held fuel t [v] = some x := by
  obtain ⟨fuel, h⟩ := h
  have : v.cells.toList = [v] := by cases v <;> first | rfl | simp [Value.oneCell'] at hv
  rw [this] at h
  exact ⟨fuel, _, h⟩
theorem arg_slice {v : Value} {d : DataW H} {ps : List MemPlace} (ht : P.underlying t = some (.slice e)) (hv : Value.okWide P W .any base t v) (h : DataW.Trod enc P W 0 sp held t v d ps) :
    ∃ fuel x, v.oneCell' = true ∧ DataW.trod enc P W 0 sp held fuel t [v] = some x := by
  obtain ⟨a, len, cap, rfl⟩ := okWide_slice ht hv
  obtain ⟨fuel, x, h⟩ := arg_one (v := .slice a len cap) rfl h
  exact ⟨fuel, x, rfl, h⟩
theorem arg_struct {fs : Array Field} {v : Value} {d : DataW H} {ps : List MemPlace} (ht : P.underlying t = some (.struct fs)) (hv : Value.okWide P W .any base t v) (h : DataW.Trod enc P W 0 sp held t v d ps) :
    ∃ fuel x cs, v = .agg cs.toArray ∧ DataW.trod enc P W 0 sp held fuel t cs = some x := by
  obtain ⟨cs, rfl, _⟩ := okWide_struct ht hv
  obtain ⟨fuel, h⟩ := h
  exact ⟨fuel, _, cs.toList, by simp, h⟩
end
end Go.Proofs.Ytkdkdaljgoibaaa
