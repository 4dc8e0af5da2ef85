/-
  How the program's common things lie in cells.
-/
import Derived.Test.YtkdkdaljgoibaaaWalk
import Derived.Test.YtkdkdaljgoibaaaOwnAll
namespace Go.Proofs.Ytkdkdaljgoibaaa
open Go Go.RowKit

instance : Inhabited OX := ⟨⟨none, 0, []⟩⟩

/-- Numbers in a list. -/
def intE : Enc Int := ⟨3, 1, fun z => [.int .i64 z], fun _ => rfl, (fun a v hv => by
  rw [List.mem_singleton] at hv
  subst hv
  rfl), by decide⟩
theorem Try.elem3 : Elem Try.prog 22 3 1 8 := by
  obtain ⟨i, hi, h1, h2, h3⟩ := info_parts (P := Try.prog) (e := 3) (z := .int .i64 0) (size := 1) (bytes := 8) (by kernel_rfl)
  exact ⟨Try.underlying22, ⟨i, _, hi, h1, h2, h3, rfl⟩, by decide⟩
end Go.Proofs.Ytkdkdaljgoibaaa
