/-
  How the program's common things lie in cells.
-/
import Derived.Test.YtmkhggfcgblefaaDoorWalk
import Derived.Test.YtmkhggfcgblefaaDoorOwnAll
namespace Go.Proofs.YtmkhggfcgblefaaDoor
open Go Go.RowKit

instance : Inhabited OX := ⟨⟨none, 0, []⟩⟩

/-- Numbers in a list. -/
def intE : Enc Int := ⟨3, 1, fun z => [.int .i64 z], fun _ => rfl, (fun a v hv => by
  rw [List.mem_singleton] at hv
  subst hv
  rfl), by decide⟩
theorem Tryd.elem3 : Elem Tryd.prog 22 3 1 8 := by
  obtain ⟨i, hi, h1, h2, h3⟩ := info_parts (P := Tryd.prog) (e := 3) (z := .int .i64 0) (size := 1) (bytes := 8) (by kernel_rfl)
  exact ⟨Tryd.underlying22, ⟨i, _, hi, h1, h2, h3, rfl⟩, by decide⟩
end Go.Proofs.YtmkhggfcgblefaaDoor
