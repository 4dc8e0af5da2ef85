/-
  No cell of these rows narrows 'for every input' (looked for: loops, veiled, ifaces, maps, wideKeys, modest, calm, conditions, laid).
  DERIVED. THE GIVEN ROWS OF THIS SEAT. 6 by the template 'for every input the law returns true; each argument reads behind the call as it read before'; 0 by the template 'total and deterministic' (their statements: YtinbcidgdbmcjaaTotals.lean).
  GIVEN WITH THE SEED: the statements are not yours to turn. If you find one false, say at which input.
  Laid BY PROGRAM, IN A SANDBOX (cutbox-rows.mjs): the forced cells as the released guide's own fill.sh prints them over the translation a900f69a892dc1d8… (all of the seat's roots in one cut). By AI agents, Wed Nov 11 2026. No macro, syntax, notation, axiom, sorry.
-/
import Derived.Test.YtinbcidgdbmcjaaChecked
import GoSem.Claim
import GoSem.ClaimJoined
import GoSem.ClaimMapViews
import Derived.JoinedTies
import Derived.KernelRfl
namespace Go.Proofs.Ytinbcidgdbmcjaa
/- THE CELL 'sum', in the pinned program and in every row, IS THE sha256 OF THE DUMP (.gsa) THAT YtinbcidgdbmcjaaProg.lean LOADS. Nothing in Lean hashes anything: it is a label: what it is worth is what the hold of that sum in a sandbox is worth. -/
noncomputable def Try.pinned : Pinned := { name := "ytinbcidgdbmcjaa", sum := "a900f69a892dc1d8fcd77b60e0911e2f764bd63a2f19cde28016a66533a2514f", checked := Try.checked }
namespace Rows
def none {H : Type} : Left H := { results := [], args := [] }

/-- 'seawalllaw20.PduPuts': WHATEVER THE INPUT: true; the input reads as it did. -/
def pduPutsSpec : ChangeSpec := { name := "pduPuts", fn := fun _ => fun
  | [d] => { results := [.lit (.bool true)], args := [d] }
  | _ => none }
def pduPutsRow : OpenClaim := { program := "ytinbcidgdbmcjaa", sum := "a900f69a892dc1d8fcd77b60e0911e2f764bd63a2f19cde28016a66533a2514f", func := "seawall/seawalllaw20.PduPuts", spec := "pduPuts", inPlace := ["internal/bytealg.IndexByteString"], unfollowed := true, recurses := true, apart := false }
def PduPutsSaid : Prop := pduPutsRow.holds Try.pinned (OpenSpec.ofChange pduPutsSpec)

/-- ITS FALSE NEIGHBOUR: 'it returns false'. Refute it at one input. -/
def pduPutsWrong : ChangeSpec := { name := "pduPuts", fn := fun _ => fun
  | [d] => { results := [.lit (.bool false)], args := [d] }
  | _ => none }
def PduPutsWrongFalsely : Prop := pduPutsRow.holds Try.pinned (OpenSpec.ofChange pduPutsWrong)

/-- 'seawalllaw20.PduBack': WHATEVER THE INPUT: true; the input reads as it did. -/
def pduBackSpec : ChangeSpec := { name := "pduBack", fn := fun _ => fun
  | [d1, d2, d3] => { results := [.lit (.bool true)], args := [d1, d2, d3] }
  | _ => none }
def pduBackRow : OpenClaim := { program := "ytinbcidgdbmcjaa", sum := "a900f69a892dc1d8fcd77b60e0911e2f764bd63a2f19cde28016a66533a2514f", func := "seawall/seawalllaw20.PduBack", spec := "pduBack", inPlace := ["internal/bytealg.IndexByteString"], unfollowed := true, recurses := true, apart := false }
def PduBackSaid : Prop := pduBackRow.holds Try.pinned (OpenSpec.ofChange pduBackSpec)

/-- ITS FALSE NEIGHBOUR: 'it returns false'. Refute it at one input. -/
def pduBackWrong : ChangeSpec := { name := "pduBack", fn := fun _ => fun
  | [d1, d2, d3] => { results := [.lit (.bool false)], args := [d1, d2, d3] }
  | _ => none }
def PduBackWrongFalsely : Prop := pduBackRow.holds Try.pinned (OpenSpec.ofChange pduBackWrong)

/-- 'seawalllaw20.PduCarries': WHATEVER THE INPUT: true; the input reads as it did. -/
def pduCarriesSpec : ChangeSpec := { name := "pduCarries", fn := fun _ => fun
  | [d1, d2] => { results := [.lit (.bool true)], args := [d1, d2] }
  | _ => none }
def pduCarriesRow : OpenClaim := { program := "ytinbcidgdbmcjaa", sum := "a900f69a892dc1d8fcd77b60e0911e2f764bd63a2f19cde28016a66533a2514f", func := "seawall/seawalllaw20.PduCarries", spec := "pduCarries", inPlace := ["internal/bytealg.IndexByteString"], unfollowed := true, recurses := true, apart := false }
def PduCarriesSaid : Prop := pduCarriesRow.holds Try.pinned (OpenSpec.ofChange pduCarriesSpec)

/-- ITS FALSE NEIGHBOUR: 'it returns false'. Refute it at one input. -/
def pduCarriesWrong : ChangeSpec := { name := "pduCarries", fn := fun _ => fun
  | [d1, d2] => { results := [.lit (.bool false)], args := [d1, d2] }
  | _ => none }
def PduCarriesWrongFalsely : Prop := pduCarriesRow.holds Try.pinned (OpenSpec.ofChange pduCarriesWrong)

/-- 'seawalllaw20.PduGets': WHATEVER THE INPUT: true; the input reads as it did. -/
def pduGetsSpec : ChangeSpec := { name := "pduGets", fn := fun _ => fun
  | [d] => { results := [.lit (.bool true)], args := [d] }
  | _ => none }
def pduGetsRow : OpenClaim := { program := "ytinbcidgdbmcjaa", sum := "a900f69a892dc1d8fcd77b60e0911e2f764bd63a2f19cde28016a66533a2514f", func := "seawall/seawalllaw20.PduGets", spec := "pduGets", inPlace := ["internal/bytealg.IndexByteString"], unfollowed := true, recurses := true, apart := false }
def PduGetsSaid : Prop := pduGetsRow.holds Try.pinned (OpenSpec.ofChange pduGetsSpec)

/-- ITS FALSE NEIGHBOUR: 'it returns false'. Refute it at one input. -/
def pduGetsWrong : ChangeSpec := { name := "pduGets", fn := fun _ => fun
  | [d] => { results := [.lit (.bool false)], args := [d] }
  | _ => none }
def PduGetsWrongFalsely : Prop := pduGetsRow.holds Try.pinned (OpenSpec.ofChange pduGetsWrong)

/-- 'seawalllaw20.PduSplits': WHATEVER THE INPUT: true; the input reads as it did. -/
def pduSplitsSpec : ChangeSpec := { name := "pduSplits", fn := fun _ => fun
  | [d1, d2] => { results := [.lit (.bool true)], args := [d1, d2] }
  | _ => none }
def pduSplitsRow : OpenClaim := { program := "ytinbcidgdbmcjaa", sum := "a900f69a892dc1d8fcd77b60e0911e2f764bd63a2f19cde28016a66533a2514f", func := "seawall/seawalllaw20.PduSplits", spec := "pduSplits", inPlace := ["internal/bytealg.IndexByteString"], unfollowed := true, recurses := true, apart := false }
def PduSplitsSaid : Prop := pduSplitsRow.holds Try.pinned (OpenSpec.ofChange pduSplitsSpec)

/-- ITS FALSE NEIGHBOUR: 'it returns false'. Refute it at one input. -/
def pduSplitsWrong : ChangeSpec := { name := "pduSplits", fn := fun _ => fun
  | [d1, d2] => { results := [.lit (.bool false)], args := [d1, d2] }
  | _ => none }
def PduSplitsWrongFalsely : Prop := pduSplitsRow.holds Try.pinned (OpenSpec.ofChange pduSplitsWrong)

/-- 'seawalllaw20.PduTexts': WHATEVER THE INPUT: true; the input reads as it did. -/
def pduTextsSpec : ChangeSpec := { name := "pduTexts", fn := fun _ => fun
  | [d1, d2] => { results := [.lit (.bool true)], args := [d1, d2] }
  | _ => none }
def pduTextsRow : OpenClaim := { program := "ytinbcidgdbmcjaa", sum := "a900f69a892dc1d8fcd77b60e0911e2f764bd63a2f19cde28016a66533a2514f", func := "seawall/seawalllaw20.PduTexts", spec := "pduTexts", inPlace := ["internal/bytealg.IndexByteString", "internal/bytealg.IndexString"], unfollowed := true, recurses := true, named := ["internal/bytealg.MaxLen"], apart := false }
def PduTextsSaid : Prop := pduTextsRow.holds Try.pinned (OpenSpec.ofChange pduTextsSpec)

/-- ITS FALSE NEIGHBOUR: 'it returns false'. Refute it at one input. -/
def pduTextsWrong : ChangeSpec := { name := "pduTexts", fn := fun _ => fun
  | [d1, d2] => { results := [.lit (.bool false)], args := [d1, d2] }
  | _ => none }
def PduTextsWrongFalsely : Prop := pduTextsRow.holds Try.pinned (OpenSpec.ofChange pduTextsWrong)

/- THE SECOND FORM. 'bulk': how many values and letters a reading holds, each counted each time it is reached (what is shared counts as often as it is met; a slice's spare places count too). A statement '..UptoSaid' is the law's where the arguments, and the package variables that the reading takes, are together of bulk at most 1048576: NARROWER than '..Said'. Prove '..Said' where nothing that the law and all that it calls make is longer than what came in: it says more and counts as full. Else prove '..UptoSaid'. A law counts once. -/
mutual
def uptoBulk {H : Type} : DataW H → Nat
  | .lit (.string bytes) => bytes.length + 1
  | .lit _ => 1
  | .nil => 1
  | .ptr d => uptoBulk d + 1
  | .slice elems spare => uptoBulkAll elems + uptoBulkAll spare + 1
  | .agg parts => uptoBulkAll parts + 1
  | .iface _ d => uptoBulk d + 1
  | .map entries => uptoBulkEntries entries + 1
  | .held _ => 1
def uptoBulkAll {H : Type} : List (DataW H) → Nat
  | [] => 0
  | d :: r => uptoBulk d + uptoBulkAll r
def uptoBulkEntries {H : Type} : List (Lit × DataW H) → Nat
  | [] => 0
  | x :: r => uptoBulkEntry x + uptoBulkEntries r
def uptoBulkEntry {H : Type} : Lit × DataW H → Nat
  | (.string bytes, d) => bytes.length + uptoBulk d + 1
  | (_, d) => uptoBulk d + 1
 end
def uptoSmall : (H : Type) → List (DataW H) → Bool := fun _ ds => decide (uptoBulkAll ds ≤ 1048576)
def OpenSpec.upto (s : _root_.Go.ChangeSpec) : _root_.Go.OpenSpec := { _root_.Go.OpenSpec.ofChange s with cond := some uptoSmall }

/-- 'seawalllaw20.PduPuts', WHERE WHAT IT READS IS OF BULK AT MOST 1048576: true; the input reads as it did. -/
def pduPutsUptoRow : OpenClaim := { program := "ytinbcidgdbmcjaa", sum := "a900f69a892dc1d8fcd77b60e0911e2f764bd63a2f19cde28016a66533a2514f", func := "seawall/seawalllaw20.PduPuts", spec := "pduPuts", inPlace := ["internal/bytealg.IndexByteString"], unfollowed := true, recurses := true, apart := false, narrowed := true }
def PduPutsUptoSaid : Prop := pduPutsUptoRow.holds Try.pinned (OpenSpec.upto pduPutsSpec)

/-- 'seawalllaw20.PduBack', WHERE WHAT IT READS IS OF BULK AT MOST 1048576: true; the input reads as it did. -/
def pduBackUptoRow : OpenClaim := { program := "ytinbcidgdbmcjaa", sum := "a900f69a892dc1d8fcd77b60e0911e2f764bd63a2f19cde28016a66533a2514f", func := "seawall/seawalllaw20.PduBack", spec := "pduBack", inPlace := ["internal/bytealg.IndexByteString"], unfollowed := true, recurses := true, apart := false, narrowed := true }
def PduBackUptoSaid : Prop := pduBackUptoRow.holds Try.pinned (OpenSpec.upto pduBackSpec)

/-- 'seawalllaw20.PduCarries', WHERE WHAT IT READS IS OF BULK AT MOST 1048576: true; the input reads as it did. -/
def pduCarriesUptoRow : OpenClaim := { program := "ytinbcidgdbmcjaa", sum := "a900f69a892dc1d8fcd77b60e0911e2f764bd63a2f19cde28016a66533a2514f", func := "seawall/seawalllaw20.PduCarries", spec := "pduCarries", inPlace := ["internal/bytealg.IndexByteString"], unfollowed := true, recurses := true, apart := false, narrowed := true }
def PduCarriesUptoSaid : Prop := pduCarriesUptoRow.holds Try.pinned (OpenSpec.upto pduCarriesSpec)

/-- 'seawalllaw20.PduGets', WHERE WHAT IT READS IS OF BULK AT MOST 1048576: true; the input reads as it did. -/
def pduGetsUptoRow : OpenClaim := { program := "ytinbcidgdbmcjaa", sum := "a900f69a892dc1d8fcd77b60e0911e2f764bd63a2f19cde28016a66533a2514f", func := "seawall/seawalllaw20.PduGets", spec := "pduGets", inPlace := ["internal/bytealg.IndexByteString"], unfollowed := true, recurses := true, apart := false, narrowed := true }
def PduGetsUptoSaid : Prop := pduGetsUptoRow.holds Try.pinned (OpenSpec.upto pduGetsSpec)

/-- 'seawalllaw20.PduSplits', WHERE WHAT IT READS IS OF BULK AT MOST 1048576: true; the input reads as it did. -/
def pduSplitsUptoRow : OpenClaim := { program := "ytinbcidgdbmcjaa", sum := "a900f69a892dc1d8fcd77b60e0911e2f764bd63a2f19cde28016a66533a2514f", func := "seawall/seawalllaw20.PduSplits", spec := "pduSplits", inPlace := ["internal/bytealg.IndexByteString"], unfollowed := true, recurses := true, apart := false, narrowed := true }
def PduSplitsUptoSaid : Prop := pduSplitsUptoRow.holds Try.pinned (OpenSpec.upto pduSplitsSpec)

/-- 'seawalllaw20.PduTexts', WHERE WHAT IT READS IS OF BULK AT MOST 1048576: true; the input reads as it did. -/
def pduTextsUptoRow : OpenClaim := { program := "ytinbcidgdbmcjaa", sum := "a900f69a892dc1d8fcd77b60e0911e2f764bd63a2f19cde28016a66533a2514f", func := "seawall/seawalllaw20.PduTexts", spec := "pduTexts", inPlace := ["internal/bytealg.IndexByteString", "internal/bytealg.IndexString"], unfollowed := true, recurses := true, named := ["internal/bytealg.MaxLen"], apart := false, narrowed := true }
def PduTextsUptoSaid : Prop := pduTextsUptoRow.holds Try.pinned (OpenSpec.upto pduTextsSpec)

end Rows
end Go.Proofs.Ytinbcidgdbmcjaa
