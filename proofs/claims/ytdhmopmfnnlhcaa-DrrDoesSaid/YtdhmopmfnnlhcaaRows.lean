/-
  No cell of these rows narrows 'for every input' (looked for: loops, veiled, ifaces, maps, wideKeys, modest, calm, conditions, laid).
  DERIVED. THE GIVEN ROWS OF THIS SEAT. 7 by the template 'for every input the law returns true; each argument reads behind the call as it read before'; 0 by the template 'total and deterministic' (their statements: YtdhmopmfnnlhcaaTotals.lean).
  GIVEN WITH THE SEED: the statements are not yours to turn. If you find one false, say at which input.
  Laid BY PROGRAM, IN A SANDBOX (cutbox-rows.mjs): the forced cells as the released guide's own fill.sh prints them over the translation c2404da1a3009142… (all of the seat's roots in one cut). By AI agents, Wed Nov 11 2026. No macro, syntax, notation, axiom, sorry.
-/
import Derived.Test.YtdhmopmfnnlhcaaChecked
import GoSem.Claim
import GoSem.ClaimJoined
import GoSem.ClaimMapViews
import Derived.JoinedTies
import Derived.KernelRfl
namespace Go.Proofs.Ytdhmopmfnnlhcaa
/- THE CELL 'sum', in the pinned program and in every row, IS THE sha256 OF THE DUMP (.gsa) THAT YtdhmopmfnnlhcaaProg.lean LOADS. Nothing in Lean hashes anything: it is a label: what it is worth is what the hold of that sum in a sandbox is worth. -/
noncomputable def Try.pinned : Pinned := { name := "ytdhmopmfnnlhcaa", sum := "c2404da1a30091425106b7859df64e8e276045f9ee95e5962abaf4fa00147efd", checked := Try.checked }
namespace Rows
def none {H : Type} : Left H := { results := [], args := [] }

/-- 'seawalllaw21.DrrCredit': WHATEVER THE INPUT: true; the input reads as it did. -/
def drrCreditSpec : ChangeSpec := { name := "drrCredit", fn := fun _ => fun
  | [d1, d2] => { results := [.lit (.bool true)], args := [d1, d2] }
  | _ => none }
def drrCreditRow : OpenClaim := { program := "ytdhmopmfnnlhcaa", sum := "c2404da1a30091425106b7859df64e8e276045f9ee95e5962abaf4fa00147efd", func := "seawall/seawalllaw21.DrrCredit", spec := "drrCredit", unfollowed := true, recurses := true, apart := false }
def DrrCreditSaid : Prop := drrCreditRow.holds Try.pinned (OpenSpec.ofChange drrCreditSpec)

/-- ITS FALSE NEIGHBOUR: 'it returns false'. Refute it at one input. -/
def drrCreditWrong : ChangeSpec := { name := "drrCredit", fn := fun _ => fun
  | [d1, d2] => { results := [.lit (.bool false)], args := [d1, d2] }
  | _ => none }
def DrrCreditWrongFalsely : Prop := drrCreditRow.holds Try.pinned (OpenSpec.ofChange drrCreditWrong)

/-- 'seawalllaw21.DrrTurns': WHATEVER THE INPUT: true; the input reads as it did. -/
def drrTurnsSpec : ChangeSpec := { name := "drrTurns", fn := fun _ => fun
  | [d1, d2, d3] => { results := [.lit (.bool true)], args := [d1, d2, d3] }
  | _ => none }
def drrTurnsRow : OpenClaim := { program := "ytdhmopmfnnlhcaa", sum := "c2404da1a30091425106b7859df64e8e276045f9ee95e5962abaf4fa00147efd", func := "seawall/seawalllaw21.DrrTurns", spec := "drrTurns", unfollowed := true, recurses := true, apart := false }
def DrrTurnsSaid : Prop := drrTurnsRow.holds Try.pinned (OpenSpec.ofChange drrTurnsSpec)

/-- ITS FALSE NEIGHBOUR: 'it returns false'. Refute it at one input. -/
def drrTurnsWrong : ChangeSpec := { name := "drrTurns", fn := fun _ => fun
  | [d1, d2, d3] => { results := [.lit (.bool false)], args := [d1, d2, d3] }
  | _ => none }
def DrrTurnsWrongFalsely : Prop := drrTurnsRow.holds Try.pinned (OpenSpec.ofChange drrTurnsWrong)

/-- 'seawalllaw21.DrrOne': WHATEVER THE INPUT: true; the input reads as it did. -/
def drrOneSpec : ChangeSpec := { name := "drrOne", fn := fun _ => fun
  | [d1, d2] => { results := [.lit (.bool true)], args := [d1, d2] }
  | _ => none }
def drrOneRow : OpenClaim := { program := "ytdhmopmfnnlhcaa", sum := "c2404da1a30091425106b7859df64e8e276045f9ee95e5962abaf4fa00147efd", func := "seawall/seawalllaw21.DrrOne", spec := "drrOne", unfollowed := true, recurses := true, apart := false }
def DrrOneSaid : Prop := drrOneRow.holds Try.pinned (OpenSpec.ofChange drrOneSpec)

/-- ITS FALSE NEIGHBOUR: 'it returns false'. Refute it at one input. -/
def drrOneWrong : ChangeSpec := { name := "drrOne", fn := fun _ => fun
  | [d1, d2] => { results := [.lit (.bool false)], args := [d1, d2] }
  | _ => none }
def DrrOneWrongFalsely : Prop := drrOneRow.holds Try.pinned (OpenSpec.ofChange drrOneWrong)

/-- 'seawalllaw21.DrrDoes': WHATEVER THE INPUT: true; the input reads as it did. -/
def drrDoesSpec : ChangeSpec := { name := "drrDoes", fn := fun _ => fun
  | [d1, d2] => { results := [.lit (.bool true)], args := [d1, d2] }
  | _ => none }
def drrDoesRow : OpenClaim := { program := "ytdhmopmfnnlhcaa", sum := "c2404da1a30091425106b7859df64e8e276045f9ee95e5962abaf4fa00147efd", func := "seawall/seawalllaw21.DrrDoes", spec := "drrDoes", unfollowed := true, recurses := true, apart := false }
def DrrDoesSaid : Prop := drrDoesRow.holds Try.pinned (OpenSpec.ofChange drrDoesSpec)

/-- ITS FALSE NEIGHBOUR: 'it returns false'. Refute it at one input. -/
def drrDoesWrong : ChangeSpec := { name := "drrDoes", fn := fun _ => fun
  | [d1, d2] => { results := [.lit (.bool false)], args := [d1, d2] }
  | _ => none }
def DrrDoesWrongFalsely : Prop := drrDoesRow.holds Try.pinned (OpenSpec.ofChange drrDoesWrong)

/-- 'seawalllaw21.DrrOrder': WHATEVER THE INPUT: true; the input reads as it did. -/
def drrOrderSpec : ChangeSpec := { name := "drrOrder", fn := fun _ => fun
  | [d1, d2] => { results := [.lit (.bool true)], args := [d1, d2] }
  | _ => none }
def drrOrderRow : OpenClaim := { program := "ytdhmopmfnnlhcaa", sum := "c2404da1a30091425106b7859df64e8e276045f9ee95e5962abaf4fa00147efd", func := "seawall/seawalllaw21.DrrOrder", spec := "drrOrder", unfollowed := true, recurses := true, apart := false }
def DrrOrderSaid : Prop := drrOrderRow.holds Try.pinned (OpenSpec.ofChange drrOrderSpec)

/-- ITS FALSE NEIGHBOUR: 'it returns false'. Refute it at one input. -/
def drrOrderWrong : ChangeSpec := { name := "drrOrder", fn := fun _ => fun
  | [d1, d2] => { results := [.lit (.bool false)], args := [d1, d2] }
  | _ => none }
def DrrOrderWrongFalsely : Prop := drrOrderRow.holds Try.pinned (OpenSpec.ofChange drrOrderWrong)

/-- 'seawalllaw21.DrrFair': WHATEVER THE INPUT: true; the input reads as it did. -/
def drrFairSpec : ChangeSpec := { name := "drrFair", fn := fun _ => fun
  | [d1, d2, d3] => { results := [.lit (.bool true)], args := [d1, d2, d3] }
  | _ => none }
def drrFairRow : OpenClaim := { program := "ytdhmopmfnnlhcaa", sum := "c2404da1a30091425106b7859df64e8e276045f9ee95e5962abaf4fa00147efd", func := "seawall/seawalllaw21.DrrFair", spec := "drrFair", unfollowed := true, recurses := true, apart := false }
def DrrFairSaid : Prop := drrFairRow.holds Try.pinned (OpenSpec.ofChange drrFairSpec)

/-- ITS FALSE NEIGHBOUR: 'it returns false'. Refute it at one input. -/
def drrFairWrong : ChangeSpec := { name := "drrFair", fn := fun _ => fun
  | [d1, d2, d3] => { results := [.lit (.bool false)], args := [d1, d2, d3] }
  | _ => none }
def DrrFairWrongFalsely : Prop := drrFairRow.holds Try.pinned (OpenSpec.ofChange drrFairWrong)

/-- 'seawalllaw21.DrrNil': WHATEVER THE INPUT: true; the input reads as it did. -/
def drrNilSpec : ChangeSpec := { name := "drrNil", fn := fun _ => fun
  | [d1, d2] => { results := [.lit (.bool true)], args := [d1, d2] }
  | _ => none }
def drrNilRow : OpenClaim := { program := "ytdhmopmfnnlhcaa", sum := "c2404da1a30091425106b7859df64e8e276045f9ee95e5962abaf4fa00147efd", func := "seawall/seawalllaw21.DrrNil", spec := "drrNil", unfollowed := true, recurses := true, apart := false }
def DrrNilSaid : Prop := drrNilRow.holds Try.pinned (OpenSpec.ofChange drrNilSpec)

/-- ITS FALSE NEIGHBOUR: 'it returns false'. Refute it at one input. -/
def drrNilWrong : ChangeSpec := { name := "drrNil", fn := fun _ => fun
  | [d1, d2] => { results := [.lit (.bool false)], args := [d1, d2] }
  | _ => none }
def DrrNilWrongFalsely : Prop := drrNilRow.holds Try.pinned (OpenSpec.ofChange drrNilWrong)

/- THE SECOND FORM. 'bulk': how many values and letters a reading holds, each counted each time it is reached (what is shared counts as often as it is met; a slice's spare places count too). A statement '..UptoSaid' is the law's where the arguments, and the package variables that the reading takes, are together of bulk at most 1048576: NARROWER than '..Said'. Prove '..Said' where nothing that the law and all that it calls make is longer than what came in: it says more and counts as full. Else prove '..UptoSaid'. A law counts once. -/
mutual
def uptoBulk {H : Type} : DataW H → Nat
  | .lit (.string bytes) => bytes.length + 1
  | .lit _ => 1
  | .nil => 1
  | .ptr d => uptoBulk d + 1
  | .slice elems spare => uptoBulkAll elems + uptoBulkAll spare + 1
  | .agg parts => uptoBulkAll parts + 1
  | .iface _ d => uptoBulk d + 1
  | .map entries => uptoBulkEntries entries + 1
  | .held _ => 1
def uptoBulkAll {H : Type} : List (DataW H) → Nat
  | [] => 0
  | d :: r => uptoBulk d + uptoBulkAll r
def uptoBulkEntries {H : Type} : List (Lit × DataW H) → Nat
  | [] => 0
  | x :: r => uptoBulkEntry x + uptoBulkEntries r
def uptoBulkEntry {H : Type} : Lit × DataW H → Nat
  | (.string bytes, d) => bytes.length + uptoBulk d + 1
  | (_, d) => uptoBulk d + 1
 end
def uptoSmall : (H : Type) → List (DataW H) → Bool := fun _ ds => decide (uptoBulkAll ds ≤ 1048576)
def OpenSpec.upto (s : _root_.Go.ChangeSpec) : _root_.Go.OpenSpec := { _root_.Go.OpenSpec.ofChange s with cond := some uptoSmall }

/-- 'seawalllaw21.DrrCredit', WHERE WHAT IT READS IS OF BULK AT MOST 1048576: true; the input reads as it did. -/
def drrCreditUptoRow : OpenClaim := { program := "ytdhmopmfnnlhcaa", sum := "c2404da1a30091425106b7859df64e8e276045f9ee95e5962abaf4fa00147efd", func := "seawall/seawalllaw21.DrrCredit", spec := "drrCredit", unfollowed := true, recurses := true, apart := false, narrowed := true }
def DrrCreditUptoSaid : Prop := drrCreditUptoRow.holds Try.pinned (OpenSpec.upto drrCreditSpec)

/-- 'seawalllaw21.DrrTurns', WHERE WHAT IT READS IS OF BULK AT MOST 1048576: true; the input reads as it did. -/
def drrTurnsUptoRow : OpenClaim := { program := "ytdhmopmfnnlhcaa", sum := "c2404da1a30091425106b7859df64e8e276045f9ee95e5962abaf4fa00147efd", func := "seawall/seawalllaw21.DrrTurns", spec := "drrTurns", unfollowed := true, recurses := true, apart := false, narrowed := true }
def DrrTurnsUptoSaid : Prop := drrTurnsUptoRow.holds Try.pinned (OpenSpec.upto drrTurnsSpec)

/-- 'seawalllaw21.DrrOne', WHERE WHAT IT READS IS OF BULK AT MOST 1048576: true; the input reads as it did. -/
def drrOneUptoRow : OpenClaim := { program := "ytdhmopmfnnlhcaa", sum := "c2404da1a30091425106b7859df64e8e276045f9ee95e5962abaf4fa00147efd", func := "seawall/seawalllaw21.DrrOne", spec := "drrOne", unfollowed := true, recurses := true, apart := false, narrowed := true }
def DrrOneUptoSaid : Prop := drrOneUptoRow.holds Try.pinned (OpenSpec.upto drrOneSpec)

/-- 'seawalllaw21.DrrDoes', WHERE WHAT IT READS IS OF BULK AT MOST 1048576: true; the input reads as it did. -/
def drrDoesUptoRow : OpenClaim := { program := "ytdhmopmfnnlhcaa", sum := "c2404da1a30091425106b7859df64e8e276045f9ee95e5962abaf4fa00147efd", func := "seawall/seawalllaw21.DrrDoes", spec := "drrDoes", unfollowed := true, recurses := true, apart := false, narrowed := true }
def DrrDoesUptoSaid : Prop := drrDoesUptoRow.holds Try.pinned (OpenSpec.upto drrDoesSpec)

/-- 'seawalllaw21.DrrOrder', WHERE WHAT IT READS IS OF BULK AT MOST 1048576: true; the input reads as it did. -/
def drrOrderUptoRow : OpenClaim := { program := "ytdhmopmfnnlhcaa", sum := "c2404da1a30091425106b7859df64e8e276045f9ee95e5962abaf4fa00147efd", func := "seawall/seawalllaw21.DrrOrder", spec := "drrOrder", unfollowed := true, recurses := true, apart := false, narrowed := true }
def DrrOrderUptoSaid : Prop := drrOrderUptoRow.holds Try.pinned (OpenSpec.upto drrOrderSpec)

/-- 'seawalllaw21.DrrFair', WHERE WHAT IT READS IS OF BULK AT MOST 1048576: true; the input reads as it did. -/
def drrFairUptoRow : OpenClaim := { program := "ytdhmopmfnnlhcaa", sum := "c2404da1a30091425106b7859df64e8e276045f9ee95e5962abaf4fa00147efd", func := "seawall/seawalllaw21.DrrFair", spec := "drrFair", unfollowed := true, recurses := true, apart := false, narrowed := true }
def DrrFairUptoSaid : Prop := drrFairUptoRow.holds Try.pinned (OpenSpec.upto drrFairSpec)

/-- 'seawalllaw21.DrrNil', WHERE WHAT IT READS IS OF BULK AT MOST 1048576: true; the input reads as it did. -/
def drrNilUptoRow : OpenClaim := { program := "ytdhmopmfnnlhcaa", sum := "c2404da1a30091425106b7859df64e8e276045f9ee95e5962abaf4fa00147efd", func := "seawall/seawalllaw21.DrrNil", spec := "drrNil", unfollowed := true, recurses := true, apart := false, narrowed := true }
def DrrNilUptoSaid : Prop := drrNilUptoRow.holds Try.pinned (OpenSpec.upto drrNilSpec)

end Rows
end Go.Proofs.Ytdhmopmfnnlhcaa
