/-
  What a call begins with: the table of the package math/bits. (seat law14)
-/
import Derived.Test.YtmkhggfcgblefaaDoorRows
import Derived.ProofKit
import Derived.LaidMore
import Derived.OpenShut
import Derived.Stop.Joined
import Derived.Test.YtmkhggfcgblefaaDoorLift2
import Derived.Test.YtmkhggfcgblefaaDoorBeat2
namespace Go.Proofs.YtmkhggfcgblefaaDoor
open Go Go.RowKit Go.ChangeShapes Go.WideShapes Go.ChangeAt

theorem gTab : Tryd.prog.globalNamed "math/bits.deBruijn32tab" = some 0 := by kernel_rfl
theorem tTab : (Tryd.prog.globals[0]?).map (·.type) = some 58 := by kernel_rfl
theorem door14 (os : Os) (args : Array Value) : laidMetH Tryd.prog [("math/bits.deBruijn32tab", Rows.laid_math_bits_deBruijn32tab)] ((World.doorLaid Tryd.prog 400 os).forCall (fun _ _ => 0) ⟨#[], args, []⟩).memory :=
  laidMetH_of_parts3 (fuel := 8) (laidMet_of_run' 8 (by kernel_rfl) (by kernel_rfl)) (by kernel_rfl) (by kernel_rfl)
theorem laid_list : ∃ D : List (DataW Unit), (Rows.laid_math_bits_deBruijn32tab : DataW Unit) = .agg D ∧ D = tabL.map fun k : Nat => .lit (.int .u8 (k : Int)) := ⟨_, rfl, rfl⟩
theorem tab_of_laid {W : World} (h : laidMetH Tryd.prog [("math/bits.deBruijn32tab", Rows.laid_math_bits_deBruijn32tab)] W) : Tab W := by
  rw [MakeChecks.laidMetH_plain _ _ _ (by kernel_rfl)] at h
  obtain ⟨ps, ⟨g0, t0, cs0, f0, p0, q0, hg0, ht0, hv0, hd0, _, _⟩, _, _⟩ := h
  obtain rfl := Option.some.inj (gTab.symm.trans hg0)
  obtain rfl := Option.some.inj (tTab.symm.trans ht0)
  obtain ⟨xs, m1, _, hx1, hlen, hn, hel⟩ := DataW.trod_array Tryd.underlying58 hd0
  have c1 : Tryd.prog.cellsOf 5 = 1 := by kernel_rfl
  have c32 : Tryd.prog.cellsOf 58 = 32 := by kernel_rfl
  rw [c1] at hel
  rw [c32] at hlen
  obtain ⟨D, hD, hDl⟩ := laid_list
  have hx2 : xs.map (·.1) = D := by
    have := congrArg Prod.fst hx1
    rw [hD] at this
    simpa using this.symm
  have key : ∀ j, j < 32 → cs0[j]? = some (.int .u8 ((el tabL j : Nat) : Int)) := by
    intro j hj
    have h1 := hel j hj
    rw [List.getElem?_eq_getElem (by omega)] at h1
    obtain ⟨k, e1, e2, _⟩ := DataW.trod_int Tryd.underlying5 h1
    have e3 : (xs.map (·.1))[j]? = some (.lit (.int .u8 ((el tabL j : Nat) : Int))) := by
      have hl : j < tabL.length := hj
      rw [hx2, hDl, List.getElem?_map, el_get hl]
      rfl
    rw [List.getElem?_map, List.getElem?_eq_getElem (by omega), Option.map_some, e2] at e3
    have e4 : k = ((el tabL j : Nat) : Int) := by simpa using e3
    rw [Nat.mul_one, e4] at e1
    have e5 := congrArg (fun l => l[0]?) e1
    simpa [List.getElem?_take, List.getElem?_drop] using e5
  refine ⟨rfl, Nat.le_refl _, fun _ => ⟨_, rfl, ?_, fun j v hv => ?_⟩⟩
  · have := World.var?_cell hg0 hv0 0
    rw [key 0 (by decide)] at this
    exact World.block_lt_of_cell? W _ this
  · have hj : j < 32 := by simpa [tabL] using (List.getElem?_eq_some_iff.1 hv).1
    have hl : j < tabL.length := hj
    have := World.var?_cell hg0 hv0 j
    rw [key j hj] at this
    rw [add_lit, Nat.zero_add, this, ← hv, List.getElem?_map, el_get hl]
    rfl
end Go.Proofs.YtmkhggfcgblefaaDoor
