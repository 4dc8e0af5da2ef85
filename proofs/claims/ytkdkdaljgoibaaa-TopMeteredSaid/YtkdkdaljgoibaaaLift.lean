/-
  From a contract to a row: what the arguments read as, each kind once.
-/
import Derived.Test.YtkdkdaljgoibaaaRows
import Derived.WalkKit
import Derived.ProofKit
import Derived.OpenShut
import Derived.ShutString
import Derived.ChangeOld
import Derived.Below
import Derived.Test.YtkdkdaljgoibaaaMem
namespace Go.Proofs.Ytkdkdaljgoibaaa
open Go Go.RowKit Go.ChangeShapes Go.WideShapes Go.ChangeAt

theorem wf_u64 {z : Int} (h : (Lit.int .u64 z).wf = true) : ∃ n : Nat, z = n ∧ n < 18446744073709551616 := ⟨z.toNat, by have := bounds_u64 h; omega, by have := bounds_u64 h; omega⟩
theorem wf_u32 {z : Int} (h : (Lit.int .u32 z).wf = true) : ∃ n : Nat, z = n ∧ n < 4294967296 := ⟨z.toNat, by have := bounds_u32 h; omega, by have := bounds_u32 h; omega⟩
theorem wf_u16 {z : Int} (h : (Lit.int .u16 z).wf = true) : ∃ n : Nat, z = n ∧ n < 65536 := ⟨z.toNat, by have := bounds_u16 h; omega, by have := bounds_u16 h; omega⟩
theorem wf_u8 {z : Int} (h : (Lit.int .u8 z).wf = true) : ∃ n : Nat, z = n ∧ n < 256 := ⟨z.toNat, by have := bounds_u8 h; omega, by have := bounds_u8 h; omega⟩

/-- Bytes that came in. -/
theorem bytes_in {H : Type} {enc : TypeId × Value → H} {P : Program} {W : World} {base : Nat} {t e : TypeId} {v : Value} {d : DataW H} {ps : List MemPlace}
    (ht : P.underlying t = some (.slice e)) (he : P.underlying e = some (.int .u8)) (hc : P.cellsOf e = 1) (hv : Value.okWide P W .any base t v)
    (h : DataW.Trod enc P W 0 (fun _ => true) true t v d ps) : ∃ A l cap, v = .slice A (List.length l) cap ∧ RdB W A cap l := by
  obtain ⟨a, len, cap, rfl⟩ := okWide_slice ht hv
  obtain ⟨fuel, hf⟩ := h
  rcases open_ints ht he hc hf with ⟨hcs, _⟩ | ⟨x, l, c, zs, hcs, _, hl, hm, hz, _, hcell, hwz⟩
  · simp [Value.cells] at hcs
    obtain ⟨rfl, rfl, rfl⟩ := hcs
    exact ⟨none, [], 0, rfl, RdB.nil _ _⟩
  · simp [Value.cells] at hcs
    obtain ⟨rfl, rfl, rfl⟩ := hcs
    have hz' : zs.length = cap := by simpa using hz
    have hlen : ((zs.take len).map fun z => UInt8.ofNat z.toNat).length = len := by simp; omega
    refine ⟨some x, (zs.take len).map fun z => UInt8.ofNat z.toNat, cap, by rw [hlen], ⟨by simp [bs], by omega, fun h0 => ⟨x, rfl, ?_, fun j v hj => ?_⟩⟩⟩
    · have h00 := World.block_lt_of_cell? W _ (hcell 0 (by omega))
      exact h00
    · have hjl : j < len := by
        have := (List.getElem?_eq_some_iff.1 hj).1
        rw [bs_length, hlen] at this
        exact this
      rw [hcell j (by omega), ← hj]
      simp only [bs, List.map_map, List.getElem?_map, List.getElem?_take, if_pos hjl]
      rw [List.getElem?_eq_getElem (by omega), List.getD_eq_getElem?_getD, List.getElem?_eq_getElem (by omega)]
      have hb := bounds_u8 (hwz zs[j] (List.getElem_mem _))
      simp only [Option.map_some, Option.getD_some, Function.comp_apply, bv, Option.some.injEq, Value.int.injEq, true_and]
      rw [UInt8.toNat_ofNat']
      omega
end Go.Proofs.Ytkdkdaljgoibaaa
