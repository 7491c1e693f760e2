/-
  NARROWER THAN 'FOR EVERY INPUT', by the rows' own cells (each row's printed sentence says how): ResolveCodes: laid · ResolveCells: laid · ResolveRenames: laid.
  DERIVED. THE GIVEN ROWS OF THIS SEAT. 3 by the template 'for every input the law returns true; each argument reads behind the call as it read before'; 0 by the template 'total and deterministic' (their statements: YtolbinhdmenekaaDoorTotals.lean).
  GIVEN WITH THE SEED: the statements are not yours to turn. If you find one false, say at which input.
  Laid BY PROGRAM, IN A SANDBOX (cutbox-rows.mjs): the forced cells as the released guide's own fill.sh prints them over the translation 4b7550e0d6f1e0a8… (all of the seat's roots in one cut). By AI agents, Wed Nov 11 2026. No macro, syntax, notation, axiom, sorry.
-/
import Derived.Test.YtolbinhdmenekaaDoorChecked
import GoSem.Claim
import GoSem.ClaimJoined
import GoSem.ClaimMapViews
import Derived.JoinedTies
import Derived.KernelRfl
namespace Go.Proofs.YtolbinhdmenekaaDoor
/- THE CELL 'sum', in the pinned program and in every row, IS THE sha256 OF THE DUMP (.gsa) THAT YtolbinhdmenekaaDoorProg.lean LOADS. Nothing in Lean hashes anything: it is a label: what it is worth is what the hold of that sum in a sandbox is worth. -/
noncomputable def Tryd.pinned : Pinned := { name := "ytolbinhdmenekaadoor", sum := "4b7550e0d6f1e0a82004657ebb40237f3232d0fd5bc6b20b2174387792b7f048", checked := Tryd.checked }
namespace Rows
def none {H : Type} : Left H := { results := [], args := [] }

/- WHAT THE LISTED PACKAGE-LEVEL VARIABLES READ AS WHEN THE CALL BEGINS. Each datum BY PROGRAM (the guide's laid-datum.mjs) off the statement by which the dump's own 'gosem.cut.vars' lays the variable. In a bare row this is a premise. The card (YtolbinhdmenekaaDoorCards.lean) ties it to the program's text. -/
def laid_rollbacknet_rollbacknetmake_scalars {H : Type} : DataW H := .agg [.lit (.string [120]), .lit (.string [121]), .lit (.string [122])]
def laid_rollbacknet_rollbacknetmake_arrays {H : Type} : DataW H := .agg [.lit (.string [97]), .lit (.string [98])]

/-- 'rollbacknetlaw03.ResolveCodes': WHATEVER THE INPUT: true; the input reads as it did. -/
def resolveCodesSpec : ChangeSpec := { name := "resolveCodes", fn := fun _ => fun
  | [d] => { results := [.lit (.bool true)], args := [d] }
  | _ => none }
def resolveCodesRow : OpenClaim := { program := "ytolbinhdmenekaadoor", sum := "4b7550e0d6f1e0a82004657ebb40237f3232d0fd5bc6b20b2174387792b7f048", func := "rollbacknet/rollbacknetlaw03.ResolveCodes", spec := "resolveCodes", recurses := true, named := ["rollbacknet/rollbacknetmake.scalars", "rollbacknet/rollbacknetmake.arrays"], apart := false, laid := [("rollbacknet/rollbacknetmake.scalars", laid_rollbacknet_rollbacknetmake_scalars), ("rollbacknet/rollbacknetmake.arrays", laid_rollbacknet_rollbacknetmake_arrays)] }
def ResolveCodesSaid : Prop := resolveCodesRow.holds Tryd.pinned (OpenSpec.ofChange resolveCodesSpec)

/-- ITS FALSE NEIGHBOUR: 'it returns false'. Refute it at one input. -/
def resolveCodesWrong : ChangeSpec := { name := "resolveCodes", fn := fun _ => fun
  | [d] => { results := [.lit (.bool false)], args := [d] }
  | _ => none }
def ResolveCodesWrongFalsely : Prop := resolveCodesRow.holds Tryd.pinned (OpenSpec.ofChange resolveCodesWrong)

/-- 'rollbacknetlaw03.ResolveCells': WHATEVER THE INPUT: true; the input reads as it did. -/
def resolveCellsSpec : ChangeSpec := { name := "resolveCells", fn := fun _ => fun
  | [d] => { results := [.lit (.bool true)], args := [d] }
  | _ => none }
def resolveCellsRow : OpenClaim := { program := "ytolbinhdmenekaadoor", sum := "4b7550e0d6f1e0a82004657ebb40237f3232d0fd5bc6b20b2174387792b7f048", func := "rollbacknet/rollbacknetlaw03.ResolveCells", spec := "resolveCells", recurses := true, named := ["rollbacknet/rollbacknetmake.scalars", "rollbacknet/rollbacknetmake.arrays"], apart := false, laid := [("rollbacknet/rollbacknetmake.scalars", laid_rollbacknet_rollbacknetmake_scalars), ("rollbacknet/rollbacknetmake.arrays", laid_rollbacknet_rollbacknetmake_arrays)] }
def ResolveCellsSaid : Prop := resolveCellsRow.holds Tryd.pinned (OpenSpec.ofChange resolveCellsSpec)

/-- ITS FALSE NEIGHBOUR: 'it returns false'. Refute it at one input. -/
def resolveCellsWrong : ChangeSpec := { name := "resolveCells", fn := fun _ => fun
  | [d] => { results := [.lit (.bool false)], args := [d] }
  | _ => none }
def ResolveCellsWrongFalsely : Prop := resolveCellsRow.holds Tryd.pinned (OpenSpec.ofChange resolveCellsWrong)

/-- 'rollbacknetlaw03.ResolveRenames': WHATEVER THE INPUT: true; the input reads as it did. -/
def resolveRenamesSpec : ChangeSpec := { name := "resolveRenames", fn := fun _ => fun
  | [d] => { results := [.lit (.bool true)], args := [d] }
  | _ => none }
def resolveRenamesRow : OpenClaim := { program := "ytolbinhdmenekaadoor", sum := "4b7550e0d6f1e0a82004657ebb40237f3232d0fd5bc6b20b2174387792b7f048", func := "rollbacknet/rollbacknetlaw03.ResolveRenames", spec := "resolveRenames", recurses := true, named := ["rollbacknet/rollbacknetmake.scalars", "rollbacknet/rollbacknetmake.arrays"], apart := false, laid := [("rollbacknet/rollbacknetmake.scalars", laid_rollbacknet_rollbacknetmake_scalars), ("rollbacknet/rollbacknetmake.arrays", laid_rollbacknet_rollbacknetmake_arrays)] }
def ResolveRenamesSaid : Prop := resolveRenamesRow.holds Tryd.pinned (OpenSpec.ofChange resolveRenamesSpec)

/-- ITS FALSE NEIGHBOUR: 'it returns false'. Refute it at one input. -/
def resolveRenamesWrong : ChangeSpec := { name := "resolveRenames", fn := fun _ => fun
  | [d] => { results := [.lit (.bool false)], args := [d] }
  | _ => none }
def ResolveRenamesWrongFalsely : Prop := resolveRenamesRow.holds Tryd.pinned (OpenSpec.ofChange resolveRenamesWrong)

/- THE SECOND FORM. 'bulk': how many values and letters a reading holds, each counted each time it is reached (what is shared counts as often as it is met; a slice's spare places count too). A statement '..UptoSaid' is the law's where the arguments, and the package variables that the reading takes, are together of bulk at most 1048576: NARROWER than '..Said'. Prove '..Said' where nothing that the law and all that it calls make is longer than what came in: it says more and counts as full. Else prove '..UptoSaid'. A law counts once. -/
mutual
def uptoBulk {H : Type} : DataW H → Nat
  | .lit (.string bytes) => bytes.length + 1
  | .lit _ => 1
  | .nil => 1
  | .ptr d => uptoBulk d + 1
  | .slice elems spare => uptoBulkAll elems + uptoBulkAll spare + 1
  | .agg parts => uptoBulkAll parts + 1
  | .iface _ d => uptoBulk d + 1
  | .map entries => uptoBulkEntries entries + 1
  | .held _ => 1
def uptoBulkAll {H : Type} : List (DataW H) → Nat
  | [] => 0
  | d :: r => uptoBulk d + uptoBulkAll r
def uptoBulkEntries {H : Type} : List (Lit × DataW H) → Nat
  | [] => 0
  | x :: r => uptoBulkEntry x + uptoBulkEntries r
def uptoBulkEntry {H : Type} : Lit × DataW H → Nat
  | (.string bytes, d) => bytes.length + uptoBulk d + 1
  | (_, d) => uptoBulk d + 1
 end
def uptoSmall : (H : Type) → List (DataW H) → Bool := fun _ ds => decide (uptoBulkAll ds ≤ 1048576)
def OpenSpec.upto (s : _root_.Go.ChangeSpec) : _root_.Go.OpenSpec := { _root_.Go.OpenSpec.ofChange s with cond := some uptoSmall }

/-- 'rollbacknetlaw03.ResolveCodes', WHERE WHAT IT READS IS OF BULK AT MOST 1048576: true; the input reads as it did. -/
def resolveCodesUptoRow : OpenClaim := { program := "ytolbinhdmenekaadoor", sum := "4b7550e0d6f1e0a82004657ebb40237f3232d0fd5bc6b20b2174387792b7f048", func := "rollbacknet/rollbacknetlaw03.ResolveCodes", spec := "resolveCodes", recurses := true, named := ["rollbacknet/rollbacknetmake.scalars", "rollbacknet/rollbacknetmake.arrays"], apart := false, laid := [("rollbacknet/rollbacknetmake.scalars", laid_rollbacknet_rollbacknetmake_scalars), ("rollbacknet/rollbacknetmake.arrays", laid_rollbacknet_rollbacknetmake_arrays)], narrowed := true }
def ResolveCodesUptoSaid : Prop := resolveCodesUptoRow.holds Tryd.pinned (OpenSpec.upto resolveCodesSpec)

/-- 'rollbacknetlaw03.ResolveCells', WHERE WHAT IT READS IS OF BULK AT MOST 1048576: true; the input reads as it did. -/
def resolveCellsUptoRow : OpenClaim := { program := "ytolbinhdmenekaadoor", sum := "4b7550e0d6f1e0a82004657ebb40237f3232d0fd5bc6b20b2174387792b7f048", func := "rollbacknet/rollbacknetlaw03.ResolveCells", spec := "resolveCells", recurses := true, named := ["rollbacknet/rollbacknetmake.scalars", "rollbacknet/rollbacknetmake.arrays"], apart := false, laid := [("rollbacknet/rollbacknetmake.scalars", laid_rollbacknet_rollbacknetmake_scalars), ("rollbacknet/rollbacknetmake.arrays", laid_rollbacknet_rollbacknetmake_arrays)], narrowed := true }
def ResolveCellsUptoSaid : Prop := resolveCellsUptoRow.holds Tryd.pinned (OpenSpec.upto resolveCellsSpec)

/-- 'rollbacknetlaw03.ResolveRenames', WHERE WHAT IT READS IS OF BULK AT MOST 1048576: true; the input reads as it did. -/
def resolveRenamesUptoRow : OpenClaim := { program := "ytolbinhdmenekaadoor", sum := "4b7550e0d6f1e0a82004657ebb40237f3232d0fd5bc6b20b2174387792b7f048", func := "rollbacknet/rollbacknetlaw03.ResolveRenames", spec := "resolveRenames", recurses := true, named := ["rollbacknet/rollbacknetmake.scalars", "rollbacknet/rollbacknetmake.arrays"], apart := false, laid := [("rollbacknet/rollbacknetmake.scalars", laid_rollbacknet_rollbacknetmake_scalars), ("rollbacknet/rollbacknetmake.arrays", laid_rollbacknet_rollbacknetmake_arrays)], narrowed := true }
def ResolveRenamesUptoSaid : Prop := resolveRenamesUptoRow.holds Tryd.pinned (OpenSpec.upto resolveRenamesSpec)

end Rows
end Go.Proofs.YtolbinhdmenekaaDoor
