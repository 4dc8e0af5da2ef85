/-
  How the program's common things lie in cells.
-/
import Derived.Test.YtciadcalnindgaaWalk
import Derived.Test.YtciadcalnindgaaOwnAll
namespace Go.Proofs.Ytciadcalnindgaa
open Go Go.RowKit

instance : Inhabited OX := ⟨⟨none, 0, []⟩⟩
/-- Lists of bytes in a list. -/
def oxE : Enc OX := ⟨22, 1, fun x => [x.v], fun _ => rfl, (fun a v hv => by
  rw [List.mem_singleton] at hv
  subst hv
  rfl), by decide⟩
theorem oxE_all (l : List OX) : oxE.all l = l.map OX.v := by
  show l.flatMap (fun x => [x.v]) = _
  induction l with
  | nil => rfl
  | cons x l ih => rw [List.flatMap_cons, ih]; rfl
theorem RdL.ox {w : World} {A : Option Addr} {c : Nat} {l : List OX} (h : RdL w oxE A c l) : Rd w A l.length c 1 (l.map OX.v) := by rw [← oxE_all]; exact h
theorem Rd.ox {w : World} {A : Option Addr} {c : Nat} {l : List OX} (h : Rd w A l.length c 1 (l.map OX.v)) : RdL w oxE A c l := by rw [← oxE_all] at h; exact h

/-- Numbers in a list. -/
def intE : Enc Int := ⟨3, 1, fun z => [.int .i64 z], fun _ => rfl, (fun a v hv => by
  rw [List.mem_singleton] at hv
  subst hv
  rfl), by decide⟩
end Go.Proofs.Ytciadcalnindgaa
