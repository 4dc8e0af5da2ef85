/-
  No cell of these rows narrows 'for every input' (looked for: loops, veiled, ifaces, maps, wideKeys, modest, calm, conditions, laid).
  DERIVED. THE GIVEN ROWS OF THIS SEAT. 8 by the template 'for every input the law returns true; each argument reads behind the call as it read before'; 0 by the template 'total and deterministic' (their statements: YtgaegaaaoopolaaTotals.lean).
  GIVEN WITH THE SEED: the statements are not yours to turn. If you find one false, say at which input.
  Laid BY PROGRAM, IN A SANDBOX (cutbox-rows.mjs): the forced cells as the released guide's own fill.sh prints them over the translation 0a0b73590af48c93… (all of the seat's roots in one cut). By AI agents, Wed Nov 11 2026. No macro, syntax, notation, axiom, sorry.
-/
import Derived.Test.YtgaegaaaoopolaaChecked
import GoSem.Claim
import GoSem.ClaimJoined
import GoSem.ClaimMapViews
import Derived.JoinedTies
import Derived.KernelRfl
namespace Go.Proofs.Ytgaegaaaoopolaa
/- THE CELL 'sum', in the pinned program and in every row, IS THE sha256 OF THE DUMP (.gsa) THAT YtgaegaaaoopolaaProg.lean LOADS. Nothing in Lean hashes anything: it is a label: what it is worth is what the hold of that sum in a sandbox is worth. -/
noncomputable def Try.pinned : Pinned := { name := "ytgaegaaaoopolaa", sum := "0a0b73590af48c933148992d828d040d6517fe3cb598e68cb02b2d3813455f33", checked := Try.checked }
namespace Rows
def none {H : Type} : Left H := { results := [], args := [] }

/-- 'seawalllaw07.SessSends': WHATEVER THE INPUT: true; the input reads as it did. -/
def sessSendsSpec : ChangeSpec := { name := "sessSends", fn := fun _ => fun
  | [d1, d2, d3, d4] => { results := [.lit (.bool true)], args := [d1, d2, d3, d4] }
  | _ => none }
def sessSendsRow : OpenClaim := { program := "ytgaegaaaoopolaa", sum := "0a0b73590af48c933148992d828d040d6517fe3cb598e68cb02b2d3813455f33", func := "seawall/seawalllaw07.SessSends", spec := "sessSends", apart := false }
def SessSendsSaid : Prop := sessSendsRow.holds Try.pinned (OpenSpec.ofChange sessSendsSpec)

/-- ITS FALSE NEIGHBOUR: 'it returns false'. Refute it at one input. -/
def sessSendsWrong : ChangeSpec := { name := "sessSends", fn := fun _ => fun
  | [d1, d2, d3, d4] => { results := [.lit (.bool false)], args := [d1, d2, d3, d4] }
  | _ => none }
def SessSendsWrongFalsely : Prop := sessSendsRow.holds Try.pinned (OpenSpec.ofChange sessSendsWrong)

/-- 'seawalllaw07.SessOrder': WHATEVER THE INPUT: true; the input reads as it did. -/
def sessOrderSpec : ChangeSpec := { name := "sessOrder", fn := fun _ => fun
  | [d1, d2, d3, d4] => { results := [.lit (.bool true)], args := [d1, d2, d3, d4] }
  | _ => none }
def sessOrderRow : OpenClaim := { program := "ytgaegaaaoopolaa", sum := "0a0b73590af48c933148992d828d040d6517fe3cb598e68cb02b2d3813455f33", func := "seawall/seawalllaw07.SessOrder", spec := "sessOrder", apart := false }
def SessOrderSaid : Prop := sessOrderRow.holds Try.pinned (OpenSpec.ofChange sessOrderSpec)

/-- ITS FALSE NEIGHBOUR: 'it returns false'. Refute it at one input. -/
def sessOrderWrong : ChangeSpec := { name := "sessOrder", fn := fun _ => fun
  | [d1, d2, d3, d4] => { results := [.lit (.bool false)], args := [d1, d2, d3, d4] }
  | _ => none }
def SessOrderWrongFalsely : Prop := sessOrderRow.holds Try.pinned (OpenSpec.ofChange sessOrderWrong)

/-- 'seawalllaw07.SessAll': WHATEVER THE INPUT: true; the input reads as it did. -/
def sessAllSpec : ChangeSpec := { name := "sessAll", fn := fun _ => fun
  | [d1, d2, d3, d4] => { results := [.lit (.bool true)], args := [d1, d2, d3, d4] }
  | _ => none }
def sessAllRow : OpenClaim := { program := "ytgaegaaaoopolaa", sum := "0a0b73590af48c933148992d828d040d6517fe3cb598e68cb02b2d3813455f33", func := "seawall/seawalllaw07.SessAll", spec := "sessAll", apart := false }
def SessAllSaid : Prop := sessAllRow.holds Try.pinned (OpenSpec.ofChange sessAllSpec)

/-- ITS FALSE NEIGHBOUR: 'it returns false'. Refute it at one input. -/
def sessAllWrong : ChangeSpec := { name := "sessAll", fn := fun _ => fun
  | [d1, d2, d3, d4] => { results := [.lit (.bool false)], args := [d1, d2, d3, d4] }
  | _ => none }
def SessAllWrongFalsely : Prop := sessAllRow.holds Try.pinned (OpenSpec.ofChange sessAllWrong)

/-- 'seawalllaw07.SessTakes': WHATEVER THE INPUT: true; the input reads as it did. -/
def sessTakesSpec : ChangeSpec := { name := "sessTakes", fn := fun _ => fun
  | [d1, d2] => { results := [.lit (.bool true)], args := [d1, d2] }
  | _ => none }
def sessTakesRow : OpenClaim := { program := "ytgaegaaaoopolaa", sum := "0a0b73590af48c933148992d828d040d6517fe3cb598e68cb02b2d3813455f33", func := "seawall/seawalllaw07.SessTakes", spec := "sessTakes", apart := false }
def SessTakesSaid : Prop := sessTakesRow.holds Try.pinned (OpenSpec.ofChange sessTakesSpec)

/-- ITS FALSE NEIGHBOUR: 'it returns false'. Refute it at one input. -/
def sessTakesWrong : ChangeSpec := { name := "sessTakes", fn := fun _ => fun
  | [d1, d2] => { results := [.lit (.bool false)], args := [d1, d2] }
  | _ => none }
def SessTakesWrongFalsely : Prop := sessTakesRow.holds Try.pinned (OpenSpec.ofChange sessTakesWrong)

/-- 'seawalllaw07.SessLives': WHATEVER THE INPUT: true; the input reads as it did. -/
def sessLivesSpec : ChangeSpec := { name := "sessLives", fn := fun _ => fun
  | [d1, d2, d3] => { results := [.lit (.bool true)], args := [d1, d2, d3] }
  | _ => none }
def sessLivesRow : OpenClaim := { program := "ytgaegaaaoopolaa", sum := "0a0b73590af48c933148992d828d040d6517fe3cb598e68cb02b2d3813455f33", func := "seawall/seawalllaw07.SessLives", spec := "sessLives", apart := false }
def SessLivesSaid : Prop := sessLivesRow.holds Try.pinned (OpenSpec.ofChange sessLivesSpec)

/-- ITS FALSE NEIGHBOUR: 'it returns false'. Refute it at one input. -/
def sessLivesWrong : ChangeSpec := { name := "sessLives", fn := fun _ => fun
  | [d1, d2, d3] => { results := [.lit (.bool false)], args := [d1, d2, d3] }
  | _ => none }
def SessLivesWrongFalsely : Prop := sessLivesRow.holds Try.pinned (OpenSpec.ofChange sessLivesWrong)

/-- 'seawalllaw07.SessNil': WHATEVER THE INPUT: true; the input reads as it did. -/
def sessNilSpec : ChangeSpec := { name := "sessNil", fn := fun _ => fun
  | [d1, d2] => { results := [.lit (.bool true)], args := [d1, d2] }
  | _ => none }
def sessNilRow : OpenClaim := { program := "ytgaegaaaoopolaa", sum := "0a0b73590af48c933148992d828d040d6517fe3cb598e68cb02b2d3813455f33", func := "seawall/seawalllaw07.SessNil", spec := "sessNil", apart := false }
def SessNilSaid : Prop := sessNilRow.holds Try.pinned (OpenSpec.ofChange sessNilSpec)

/-- ITS FALSE NEIGHBOUR: 'it returns false'. Refute it at one input. -/
def sessNilWrong : ChangeSpec := { name := "sessNil", fn := fun _ => fun
  | [d1, d2] => { results := [.lit (.bool false)], args := [d1, d2] }
  | _ => none }
def SessNilWrongFalsely : Prop := sessNilRow.holds Try.pinned (OpenSpec.ofChange sessNilWrong)

/-- 'seawalllaw07.SessSegs': WHATEVER THE INPUT: true; the input reads as it did. -/
def sessSegsSpec : ChangeSpec := { name := "sessSegs", fn := fun _ => fun
  | [d1, d2] => { results := [.lit (.bool true)], args := [d1, d2] }
  | _ => none }
def sessSegsRow : OpenClaim := { program := "ytgaegaaaoopolaa", sum := "0a0b73590af48c933148992d828d040d6517fe3cb598e68cb02b2d3813455f33", func := "seawall/seawalllaw07.SessSegs", spec := "sessSegs", apart := false }
def SessSegsSaid : Prop := sessSegsRow.holds Try.pinned (OpenSpec.ofChange sessSegsSpec)

/-- ITS FALSE NEIGHBOUR: 'it returns false'. Refute it at one input. -/
def sessSegsWrong : ChangeSpec := { name := "sessSegs", fn := fun _ => fun
  | [d1, d2] => { results := [.lit (.bool false)], args := [d1, d2] }
  | _ => none }
def SessSegsWrongFalsely : Prop := sessSegsRow.holds Try.pinned (OpenSpec.ofChange sessSegsWrong)

/-- 'seawalllaw07.SessBack': WHATEVER THE INPUT: true; the input reads as it did. -/
def sessBackSpec : ChangeSpec := { name := "sessBack", fn := fun _ => fun
  | [d1, d2, d3] => { results := [.lit (.bool true)], args := [d1, d2, d3] }
  | _ => none }
def sessBackRow : OpenClaim := { program := "ytgaegaaaoopolaa", sum := "0a0b73590af48c933148992d828d040d6517fe3cb598e68cb02b2d3813455f33", func := "seawall/seawalllaw07.SessBack", spec := "sessBack", apart := false }
def SessBackSaid : Prop := sessBackRow.holds Try.pinned (OpenSpec.ofChange sessBackSpec)

/-- ITS FALSE NEIGHBOUR: 'it returns false'. Refute it at one input. -/
def sessBackWrong : ChangeSpec := { name := "sessBack", fn := fun _ => fun
  | [d1, d2, d3] => { results := [.lit (.bool false)], args := [d1, d2, d3] }
  | _ => none }
def SessBackWrongFalsely : Prop := sessBackRow.holds Try.pinned (OpenSpec.ofChange sessBackWrong)

/- THE SECOND FORM. 'bulk': how many values and letters a reading holds, each counted each time it is reached (what is shared counts as often as it is met; a slice's spare places count too). A statement '..UptoSaid' is the law's where the arguments, and the package variables that the reading takes, are together of bulk at most 1048576: NARROWER than '..Said'. Prove '..Said' where nothing that the law and all that it calls make is longer than what came in: it says more and counts as full. Else prove '..UptoSaid'. A law counts once. -/
mutual
def uptoBulk {H : Type} : DataW H → Nat
  | .lit (.string bytes) => bytes.length + 1
  | .lit _ => 1
  | .nil => 1
  | .ptr d => uptoBulk d + 1
  | .slice elems spare => uptoBulkAll elems + uptoBulkAll spare + 1
  | .agg parts => uptoBulkAll parts + 1
  | .iface _ d => uptoBulk d + 1
  | .map entries => uptoBulkEntries entries + 1
  | .held _ => 1
def uptoBulkAll {H : Type} : List (DataW H) → Nat
  | [] => 0
  | d :: r => uptoBulk d + uptoBulkAll r
def uptoBulkEntries {H : Type} : List (Lit × DataW H) → Nat
  | [] => 0
  | x :: r => uptoBulkEntry x + uptoBulkEntries r
def uptoBulkEntry {H : Type} : Lit × DataW H → Nat
  | (.string bytes, d) => bytes.length + uptoBulk d + 1
  | (_, d) => uptoBulk d + 1
 end
def uptoSmall : (H : Type) → List (DataW H) → Bool := fun _ ds => decide (uptoBulkAll ds ≤ 1048576)
def OpenSpec.upto (s : _root_.Go.ChangeSpec) : _root_.Go.OpenSpec := { _root_.Go.OpenSpec.ofChange s with cond := some uptoSmall }

/-- 'seawalllaw07.SessSends', WHERE WHAT IT READS IS OF BULK AT MOST 1048576: true; the input reads as it did. -/
def sessSendsUptoRow : OpenClaim := { program := "ytgaegaaaoopolaa", sum := "0a0b73590af48c933148992d828d040d6517fe3cb598e68cb02b2d3813455f33", func := "seawall/seawalllaw07.SessSends", spec := "sessSends", apart := false, narrowed := true }
def SessSendsUptoSaid : Prop := sessSendsUptoRow.holds Try.pinned (OpenSpec.upto sessSendsSpec)

/-- 'seawalllaw07.SessOrder', WHERE WHAT IT READS IS OF BULK AT MOST 1048576: true; the input reads as it did. -/
def sessOrderUptoRow : OpenClaim := { program := "ytgaegaaaoopolaa", sum := "0a0b73590af48c933148992d828d040d6517fe3cb598e68cb02b2d3813455f33", func := "seawall/seawalllaw07.SessOrder", spec := "sessOrder", apart := false, narrowed := true }
def SessOrderUptoSaid : Prop := sessOrderUptoRow.holds Try.pinned (OpenSpec.upto sessOrderSpec)

/-- 'seawalllaw07.SessAll', WHERE WHAT IT READS IS OF BULK AT MOST 1048576: true; the input reads as it did. -/
def sessAllUptoRow : OpenClaim := { program := "ytgaegaaaoopolaa", sum := "0a0b73590af48c933148992d828d040d6517fe3cb598e68cb02b2d3813455f33", func := "seawall/seawalllaw07.SessAll", spec := "sessAll", apart := false, narrowed := true }
def SessAllUptoSaid : Prop := sessAllUptoRow.holds Try.pinned (OpenSpec.upto sessAllSpec)

/-- 'seawalllaw07.SessTakes', WHERE WHAT IT READS IS OF BULK AT MOST 1048576: true; the input reads as it did. -/
def sessTakesUptoRow : OpenClaim := { program := "ytgaegaaaoopolaa", sum := "0a0b73590af48c933148992d828d040d6517fe3cb598e68cb02b2d3813455f33", func := "seawall/seawalllaw07.SessTakes", spec := "sessTakes", apart := false, narrowed := true }
def SessTakesUptoSaid : Prop := sessTakesUptoRow.holds Try.pinned (OpenSpec.upto sessTakesSpec)

/-- 'seawalllaw07.SessLives', WHERE WHAT IT READS IS OF BULK AT MOST 1048576: true; the input reads as it did. -/
def sessLivesUptoRow : OpenClaim := { program := "ytgaegaaaoopolaa", sum := "0a0b73590af48c933148992d828d040d6517fe3cb598e68cb02b2d3813455f33", func := "seawall/seawalllaw07.SessLives", spec := "sessLives", apart := false, narrowed := true }
def SessLivesUptoSaid : Prop := sessLivesUptoRow.holds Try.pinned (OpenSpec.upto sessLivesSpec)

/-- 'seawalllaw07.SessNil', WHERE WHAT IT READS IS OF BULK AT MOST 1048576: true; the input reads as it did. -/
def sessNilUptoRow : OpenClaim := { program := "ytgaegaaaoopolaa", sum := "0a0b73590af48c933148992d828d040d6517fe3cb598e68cb02b2d3813455f33", func := "seawall/seawalllaw07.SessNil", spec := "sessNil", apart := false, narrowed := true }
def SessNilUptoSaid : Prop := sessNilUptoRow.holds Try.pinned (OpenSpec.upto sessNilSpec)

/-- 'seawalllaw07.SessSegs', WHERE WHAT IT READS IS OF BULK AT MOST 1048576: true; the input reads as it did. -/
def sessSegsUptoRow : OpenClaim := { program := "ytgaegaaaoopolaa", sum := "0a0b73590af48c933148992d828d040d6517fe3cb598e68cb02b2d3813455f33", func := "seawall/seawalllaw07.SessSegs", spec := "sessSegs", apart := false, narrowed := true }
def SessSegsUptoSaid : Prop := sessSegsUptoRow.holds Try.pinned (OpenSpec.upto sessSegsSpec)

/-- 'seawalllaw07.SessBack', WHERE WHAT IT READS IS OF BULK AT MOST 1048576: true; the input reads as it did. -/
def sessBackUptoRow : OpenClaim := { program := "ytgaegaaaoopolaa", sum := "0a0b73590af48c933148992d828d040d6517fe3cb598e68cb02b2d3813455f33", func := "seawall/seawalllaw07.SessBack", spec := "sessBack", apart := false, narrowed := true }
def SessBackUptoSaid : Prop := sessBackUptoRow.holds Try.pinned (OpenSpec.upto sessBackSpec)

end Rows
end Go.Proofs.Ytgaegaaaoopolaa
