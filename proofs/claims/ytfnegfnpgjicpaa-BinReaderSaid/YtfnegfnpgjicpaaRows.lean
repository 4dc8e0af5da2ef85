/-
  No cell of these rows narrows 'for every input' (looked for: loops, veiled, ifaces, maps, wideKeys, modest, calm, conditions, laid).
  DERIVED. THE GIVEN ROWS OF THIS SEAT. 7 by the template 'for every input the law returns true; each argument reads behind the call as it read before'; 0 by the template 'total and deterministic' (their statements: YtfnegfnpgjicpaaTotals.lean).
  GIVEN WITH THE SEED: the statements are not yours to turn. If you find one false, say at which input.
  Laid BY PROGRAM, IN A SANDBOX (cutbox-rows.mjs): the forced cells as the released guide's own fill.sh prints them over the translation aeceb1962b33b7c1… (all of the seat's roots in one cut). By AI agents, Wed Nov 11 2026. No macro, syntax, notation, axiom, sorry.
-/
import Derived.Test.YtfnegfnpgjicpaaChecked
import GoSem.Claim
import GoSem.ClaimJoined
import GoSem.ClaimMapViews
import Derived.JoinedTies
import Derived.KernelRfl
namespace Go.Proofs.Ytfnegfnpgjicpaa
/- THE CELL 'sum', in the pinned program and in every row, IS THE sha256 OF THE DUMP (.gsa) THAT YtfnegfnpgjicpaaProg.lean LOADS. Nothing in Lean hashes anything: it is a label: what it is worth is what the hold of that sum in a sandbox is worth. -/
noncomputable def Try.pinned : Pinned := { name := "ytfnegfnpgjicpaa", sum := "aeceb1962b33b7c13f02059db66035a9477952d19fe5ac410e10191c25e99a3e", checked := Try.checked }
namespace Rows
def none {H : Type} : Left H := { results := [], args := [] }

/-- 'seawalllaw01.BinOrder': WHATEVER THE INPUT: true; the input reads as it did. -/
def binOrderSpec : ChangeSpec := { name := "binOrder", fn := fun _ => fun
  | [d1, d2] => { results := [.lit (.bool true)], args := [d1, d2] }
  | _ => none }
def binOrderRow : OpenClaim := { program := "ytfnegfnpgjicpaa", sum := "aeceb1962b33b7c13f02059db66035a9477952d19fe5ac410e10191c25e99a3e", func := "seawall/seawalllaw01.BinOrder", spec := "binOrder", apart := false }
def BinOrderSaid : Prop := binOrderRow.holds Try.pinned (OpenSpec.ofChange binOrderSpec)

/-- ITS FALSE NEIGHBOUR: 'it returns false'. Refute it at one input. -/
def binOrderWrong : ChangeSpec := { name := "binOrder", fn := fun _ => fun
  | [d1, d2] => { results := [.lit (.bool false)], args := [d1, d2] }
  | _ => none }
def BinOrderWrongFalsely : Prop := binOrderRow.holds Try.pinned (OpenSpec.ofChange binOrderWrong)

/-- 'seawalllaw01.BinTexts': WHATEVER THE INPUT: true; the input reads as it did. -/
def binTextsSpec : ChangeSpec := { name := "binTexts", fn := fun _ => fun
  | [d1, d2, d3] => { results := [.lit (.bool true)], args := [d1, d2, d3] }
  | _ => none }
def binTextsRow : OpenClaim := { program := "ytfnegfnpgjicpaa", sum := "aeceb1962b33b7c13f02059db66035a9477952d19fe5ac410e10191c25e99a3e", func := "seawall/seawalllaw01.BinTexts", spec := "binTexts", apart := false }
def BinTextsSaid : Prop := binTextsRow.holds Try.pinned (OpenSpec.ofChange binTextsSpec)

/-- ITS FALSE NEIGHBOUR: 'it returns false'. Refute it at one input. -/
def binTextsWrong : ChangeSpec := { name := "binTexts", fn := fun _ => fun
  | [d1, d2, d3] => { results := [.lit (.bool false)], args := [d1, d2, d3] }
  | _ => none }
def BinTextsWrongFalsely : Prop := binTextsRow.holds Try.pinned (OpenSpec.ofChange binTextsWrong)

/-- 'seawalllaw01.BinOne': WHATEVER THE INPUT: true; the input reads as it did. -/
def binOneSpec : ChangeSpec := { name := "binOne", fn := fun _ => fun
  | [d1, d2] => { results := [.lit (.bool true)], args := [d1, d2] }
  | _ => none }
def binOneRow : OpenClaim := { program := "ytfnegfnpgjicpaa", sum := "aeceb1962b33b7c13f02059db66035a9477952d19fe5ac410e10191c25e99a3e", func := "seawall/seawalllaw01.BinOne", spec := "binOne", apart := false }
def BinOneSaid : Prop := binOneRow.holds Try.pinned (OpenSpec.ofChange binOneSpec)

/-- ITS FALSE NEIGHBOUR: 'it returns false'. Refute it at one input. -/
def binOneWrong : ChangeSpec := { name := "binOne", fn := fun _ => fun
  | [d1, d2] => { results := [.lit (.bool false)], args := [d1, d2] }
  | _ => none }
def BinOneWrongFalsely : Prop := binOneRow.holds Try.pinned (OpenSpec.ofChange binOneWrong)

/-- 'seawalllaw01.BinNumbers': WHATEVER THE INPUT: true; the input reads as it did. -/
def binNumbersSpec : ChangeSpec := { name := "binNumbers", fn := fun _ => fun
  | [d1, d2, d3] => { results := [.lit (.bool true)], args := [d1, d2, d3] }
  | _ => none }
def binNumbersRow : OpenClaim := { program := "ytfnegfnpgjicpaa", sum := "aeceb1962b33b7c13f02059db66035a9477952d19fe5ac410e10191c25e99a3e", func := "seawall/seawalllaw01.BinNumbers", spec := "binNumbers", apart := false }
def BinNumbersSaid : Prop := binNumbersRow.holds Try.pinned (OpenSpec.ofChange binNumbersSpec)

/-- ITS FALSE NEIGHBOUR: 'it returns false'. Refute it at one input. -/
def binNumbersWrong : ChangeSpec := { name := "binNumbers", fn := fun _ => fun
  | [d1, d2, d3] => { results := [.lit (.bool false)], args := [d1, d2, d3] }
  | _ => none }
def BinNumbersWrongFalsely : Prop := binNumbersRow.holds Try.pinned (OpenSpec.ofChange binNumbersWrong)

/-- 'seawalllaw01.BinBack': WHATEVER THE INPUT: true; the input reads as it did. -/
def binBackSpec : ChangeSpec := { name := "binBack", fn := fun _ => fun
  | [d1, d2, d3, d4, d5] => { results := [.lit (.bool true)], args := [d1, d2, d3, d4, d5] }
  | _ => none }
def binBackRow : OpenClaim := { program := "ytfnegfnpgjicpaa", sum := "aeceb1962b33b7c13f02059db66035a9477952d19fe5ac410e10191c25e99a3e", func := "seawall/seawalllaw01.BinBack", spec := "binBack", apart := false }
def BinBackSaid : Prop := binBackRow.holds Try.pinned (OpenSpec.ofChange binBackSpec)

/-- ITS FALSE NEIGHBOUR: 'it returns false'. Refute it at one input. -/
def binBackWrong : ChangeSpec := { name := "binBack", fn := fun _ => fun
  | [d1, d2, d3, d4, d5] => { results := [.lit (.bool false)], args := [d1, d2, d3, d4, d5] }
  | _ => none }
def BinBackWrongFalsely : Prop := binBackRow.holds Try.pinned (OpenSpec.ofChange binBackWrong)

/-- 'seawalllaw01.BinReads': WHATEVER THE INPUT: true; the input reads as it did. -/
def binReadsSpec : ChangeSpec := { name := "binReads", fn := fun _ => fun
  | [d1, d2] => { results := [.lit (.bool true)], args := [d1, d2] }
  | _ => none }
def binReadsRow : OpenClaim := { program := "ytfnegfnpgjicpaa", sum := "aeceb1962b33b7c13f02059db66035a9477952d19fe5ac410e10191c25e99a3e", func := "seawall/seawalllaw01.BinReads", spec := "binReads", apart := false }
def BinReadsSaid : Prop := binReadsRow.holds Try.pinned (OpenSpec.ofChange binReadsSpec)

/-- ITS FALSE NEIGHBOUR: 'it returns false'. Refute it at one input. -/
def binReadsWrong : ChangeSpec := { name := "binReads", fn := fun _ => fun
  | [d1, d2] => { results := [.lit (.bool false)], args := [d1, d2] }
  | _ => none }
def BinReadsWrongFalsely : Prop := binReadsRow.holds Try.pinned (OpenSpec.ofChange binReadsWrong)

/-- 'seawalllaw01.BinReader': WHATEVER THE INPUT: true; the input reads as it did. -/
def binReaderSpec : ChangeSpec := { name := "binReader", fn := fun _ => fun
  | [d1, d2] => { results := [.lit (.bool true)], args := [d1, d2] }
  | _ => none }
def binReaderRow : OpenClaim := { program := "ytfnegfnpgjicpaa", sum := "aeceb1962b33b7c13f02059db66035a9477952d19fe5ac410e10191c25e99a3e", func := "seawall/seawalllaw01.BinReader", spec := "binReader", apart := false }
def BinReaderSaid : Prop := binReaderRow.holds Try.pinned (OpenSpec.ofChange binReaderSpec)

/-- ITS FALSE NEIGHBOUR: 'it returns false'. Refute it at one input. -/
def binReaderWrong : ChangeSpec := { name := "binReader", fn := fun _ => fun
  | [d1, d2] => { results := [.lit (.bool false)], args := [d1, d2] }
  | _ => none }
def BinReaderWrongFalsely : Prop := binReaderRow.holds Try.pinned (OpenSpec.ofChange binReaderWrong)

/- THE SECOND FORM. 'bulk': how many values and letters a reading holds, each counted each time it is reached (what is shared counts as often as it is met; a slice's spare places count too). A statement '..UptoSaid' is the law's where the arguments, and the package variables that the reading takes, are together of bulk at most 1048576: NARROWER than '..Said'. Prove '..Said' where nothing that the law and all that it calls make is longer than what came in: it says more and counts as full. Else prove '..UptoSaid'. A law counts once. -/
mutual
def uptoBulk {H : Type} : DataW H → Nat
  | .lit (.string bytes) => bytes.length + 1
  | .lit _ => 1
  | .nil => 1
  | .ptr d => uptoBulk d + 1
  | .slice elems spare => uptoBulkAll elems + uptoBulkAll spare + 1
  | .agg parts => uptoBulkAll parts + 1
  | .iface _ d => uptoBulk d + 1
  | .map entries => uptoBulkEntries entries + 1
  | .held _ => 1
def uptoBulkAll {H : Type} : List (DataW H) → Nat
  | [] => 0
  | d :: r => uptoBulk d + uptoBulkAll r
def uptoBulkEntries {H : Type} : List (Lit × DataW H) → Nat
  | [] => 0
  | x :: r => uptoBulkEntry x + uptoBulkEntries r
def uptoBulkEntry {H : Type} : Lit × DataW H → Nat
  | (.string bytes, d) => bytes.length + uptoBulk d + 1
  | (_, d) => uptoBulk d + 1
 end
def uptoSmall : (H : Type) → List (DataW H) → Bool := fun _ ds => decide (uptoBulkAll ds ≤ 1048576)
def OpenSpec.upto (s : _root_.Go.ChangeSpec) : _root_.Go.OpenSpec := { _root_.Go.OpenSpec.ofChange s with cond := some uptoSmall }

/-- 'seawalllaw01.BinOrder', WHERE WHAT IT READS IS OF BULK AT MOST 1048576: true; the input reads as it did. -/
def binOrderUptoRow : OpenClaim := { program := "ytfnegfnpgjicpaa", sum := "aeceb1962b33b7c13f02059db66035a9477952d19fe5ac410e10191c25e99a3e", func := "seawall/seawalllaw01.BinOrder", spec := "binOrder", apart := false, narrowed := true }
def BinOrderUptoSaid : Prop := binOrderUptoRow.holds Try.pinned (OpenSpec.upto binOrderSpec)

/-- 'seawalllaw01.BinTexts', WHERE WHAT IT READS IS OF BULK AT MOST 1048576: true; the input reads as it did. -/
def binTextsUptoRow : OpenClaim := { program := "ytfnegfnpgjicpaa", sum := "aeceb1962b33b7c13f02059db66035a9477952d19fe5ac410e10191c25e99a3e", func := "seawall/seawalllaw01.BinTexts", spec := "binTexts", apart := false, narrowed := true }
def BinTextsUptoSaid : Prop := binTextsUptoRow.holds Try.pinned (OpenSpec.upto binTextsSpec)

/-- 'seawalllaw01.BinOne', WHERE WHAT IT READS IS OF BULK AT MOST 1048576: true; the input reads as it did. -/
def binOneUptoRow : OpenClaim := { program := "ytfnegfnpgjicpaa", sum := "aeceb1962b33b7c13f02059db66035a9477952d19fe5ac410e10191c25e99a3e", func := "seawall/seawalllaw01.BinOne", spec := "binOne", apart := false, narrowed := true }
def BinOneUptoSaid : Prop := binOneUptoRow.holds Try.pinned (OpenSpec.upto binOneSpec)

/-- 'seawalllaw01.BinNumbers', WHERE WHAT IT READS IS OF BULK AT MOST 1048576: true; the input reads as it did. -/
def binNumbersUptoRow : OpenClaim := { program := "ytfnegfnpgjicpaa", sum := "aeceb1962b33b7c13f02059db66035a9477952d19fe5ac410e10191c25e99a3e", func := "seawall/seawalllaw01.BinNumbers", spec := "binNumbers", apart := false, narrowed := true }
def BinNumbersUptoSaid : Prop := binNumbersUptoRow.holds Try.pinned (OpenSpec.upto binNumbersSpec)

/-- 'seawalllaw01.BinBack', WHERE WHAT IT READS IS OF BULK AT MOST 1048576: true; the input reads as it did. -/
def binBackUptoRow : OpenClaim := { program := "ytfnegfnpgjicpaa", sum := "aeceb1962b33b7c13f02059db66035a9477952d19fe5ac410e10191c25e99a3e", func := "seawall/seawalllaw01.BinBack", spec := "binBack", apart := false, narrowed := true }
def BinBackUptoSaid : Prop := binBackUptoRow.holds Try.pinned (OpenSpec.upto binBackSpec)

/-- 'seawalllaw01.BinReads', WHERE WHAT IT READS IS OF BULK AT MOST 1048576: true; the input reads as it did. -/
def binReadsUptoRow : OpenClaim := { program := "ytfnegfnpgjicpaa", sum := "aeceb1962b33b7c13f02059db66035a9477952d19fe5ac410e10191c25e99a3e", func := "seawall/seawalllaw01.BinReads", spec := "binReads", apart := false, narrowed := true }
def BinReadsUptoSaid : Prop := binReadsUptoRow.holds Try.pinned (OpenSpec.upto binReadsSpec)

/-- 'seawalllaw01.BinReader', WHERE WHAT IT READS IS OF BULK AT MOST 1048576: true; the input reads as it did. -/
def binReaderUptoRow : OpenClaim := { program := "ytfnegfnpgjicpaa", sum := "aeceb1962b33b7c13f02059db66035a9477952d19fe5ac410e10191c25e99a3e", func := "seawall/seawalllaw01.BinReader", spec := "binReader", apart := false, narrowed := true }
def BinReaderUptoSaid : Prop := binReaderUptoRow.holds Try.pinned (OpenSpec.upto binReaderSpec)

end Rows
end Go.Proofs.Ytfnegfnpgjicpaa
