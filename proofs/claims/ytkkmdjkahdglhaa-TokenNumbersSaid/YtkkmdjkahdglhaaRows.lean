/-
  No cell of these rows narrows 'for every input' (looked for: loops, veiled, ifaces, maps, wideKeys, modest, calm, conditions, laid).
  DERIVED. THE GIVEN ROWS OF THIS SEAT. 3 by the template 'for every input the law returns true; each argument reads behind the call as it read before'; 0 by the template 'total and deterministic' (their statements: YtkkmdjkahdglhaaTotals.lean).
  GIVEN WITH THE SEED: the statements are not yours to turn. If you find one false, say at which input.
  Laid BY PROGRAM, IN A SANDBOX (cutbox-rows.mjs): the forced cells as the released guide's own fill.sh prints them over the translation 7d6609e0998af9c9… (all of the seat's roots in one cut). By AI agents, Wed Nov 11 2026. No macro, syntax, notation, axiom, sorry.
-/
import Derived.Test.YtkkmdjkahdglhaaChecked
import GoSem.Claim
import GoSem.ClaimJoined
import GoSem.ClaimMapViews
import Derived.JoinedTies
import Derived.KernelRfl
namespace Go.Proofs.Ytkkmdjkahdglhaa
/- THE CELL 'sum', in the pinned program and in every row, IS THE sha256 OF THE DUMP (.gsa) THAT YtkkmdjkahdglhaaProg.lean LOADS. Nothing in Lean hashes anything: it is a label: what it is worth is what the hold of that sum in a sandbox is worth. -/
noncomputable def Try.pinned : Pinned := { name := "ytkkmdjkahdglhaa", sum := "7d6609e0998af9c9a64ddfa3f4cc219aa4567aed4cc3cc54ed7a1c390ab8dba3", checked := Try.checked }
namespace Rows
def none {H : Type} : Left H := { results := [], args := [] }

/-- 'rollbacknetlaw01.TokenScans': WHATEVER THE INPUT: true; the input reads as it did. -/
def tokenScansSpec : ChangeSpec := { name := "tokenScans", fn := fun _ => fun
  | [d] => { results := [.lit (.bool true)], args := [d] }
  | _ => none }
def tokenScansRow : OpenClaim := { program := "ytkkmdjkahdglhaa", sum := "7d6609e0998af9c9a64ddfa3f4cc219aa4567aed4cc3cc54ed7a1c390ab8dba3", func := "rollbacknet/rollbacknetlaw01.TokenScans", spec := "tokenScans", apart := false }
def TokenScansSaid : Prop := tokenScansRow.holds Try.pinned (OpenSpec.ofChange tokenScansSpec)

/-- ITS FALSE NEIGHBOUR: 'it returns false'. Refute it at one input. -/
def tokenScansWrong : ChangeSpec := { name := "tokenScans", fn := fun _ => fun
  | [d] => { results := [.lit (.bool false)], args := [d] }
  | _ => none }
def TokenScansWrongFalsely : Prop := tokenScansRow.holds Try.pinned (OpenSpec.ofChange tokenScansWrong)

/-- 'rollbacknetlaw01.TokenNumbers': WHATEVER THE INPUT: true; the input reads as it did. -/
def tokenNumbersSpec : ChangeSpec := { name := "tokenNumbers", fn := fun _ => fun
  | [d1, d2] => { results := [.lit (.bool true)], args := [d1, d2] }
  | _ => none }
def tokenNumbersRow : OpenClaim := { program := "ytkkmdjkahdglhaa", sum := "7d6609e0998af9c9a64ddfa3f4cc219aa4567aed4cc3cc54ed7a1c390ab8dba3", func := "rollbacknet/rollbacknetlaw01.TokenNumbers", spec := "tokenNumbers", apart := false }
def TokenNumbersSaid : Prop := tokenNumbersRow.holds Try.pinned (OpenSpec.ofChange tokenNumbersSpec)

/-- ITS FALSE NEIGHBOUR: 'it returns false'. Refute it at one input. -/
def tokenNumbersWrong : ChangeSpec := { name := "tokenNumbers", fn := fun _ => fun
  | [d1, d2] => { results := [.lit (.bool false)], args := [d1, d2] }
  | _ => none }
def TokenNumbersWrongFalsely : Prop := tokenNumbersRow.holds Try.pinned (OpenSpec.ofChange tokenNumbersWrong)

/-- 'rollbacknetlaw01.TokenNames': WHATEVER THE INPUT: true; the input reads as it did. -/
def tokenNamesSpec : ChangeSpec := { name := "tokenNames", fn := fun _ => fun
  | [d] => { results := [.lit (.bool true)], args := [d] }
  | _ => none }
def tokenNamesRow : OpenClaim := { program := "ytkkmdjkahdglhaa", sum := "7d6609e0998af9c9a64ddfa3f4cc219aa4567aed4cc3cc54ed7a1c390ab8dba3", func := "rollbacknet/rollbacknetlaw01.TokenNames", spec := "tokenNames", apart := false }
def TokenNamesSaid : Prop := tokenNamesRow.holds Try.pinned (OpenSpec.ofChange tokenNamesSpec)

/-- ITS FALSE NEIGHBOUR: 'it returns false'. Refute it at one input. -/
def tokenNamesWrong : ChangeSpec := { name := "tokenNames", fn := fun _ => fun
  | [d] => { results := [.lit (.bool false)], args := [d] }
  | _ => none }
def TokenNamesWrongFalsely : Prop := tokenNamesRow.holds Try.pinned (OpenSpec.ofChange tokenNamesWrong)

/- THE SECOND FORM. 'bulk': how many values and letters a reading holds, each counted each time it is reached (what is shared counts as often as it is met; a slice's spare places count too). A statement '..UptoSaid' is the law's where the arguments, and the package variables that the reading takes, are together of bulk at most 1048576: NARROWER than '..Said'. Prove '..Said' where nothing that the law and all that it calls make is longer than what came in: it says more and counts as full. Else prove '..UptoSaid'. A law counts once. -/
mutual
def uptoBulk {H : Type} : DataW H → Nat
  | .lit (.string bytes) => bytes.length + 1
  | .lit _ => 1
  | .nil => 1
  | .ptr d => uptoBulk d + 1
  | .slice elems spare => uptoBulkAll elems + uptoBulkAll spare + 1
  | .agg parts => uptoBulkAll parts + 1
  | .iface _ d => uptoBulk d + 1
  | .map entries => uptoBulkEntries entries + 1
  | .held _ => 1
def uptoBulkAll {H : Type} : List (DataW H) → Nat
  | [] => 0
  | d :: r => uptoBulk d + uptoBulkAll r
def uptoBulkEntries {H : Type} : List (Lit × DataW H) → Nat
  | [] => 0
  | x :: r => uptoBulkEntry x + uptoBulkEntries r
def uptoBulkEntry {H : Type} : Lit × DataW H → Nat
  | (.string bytes, d) => bytes.length + uptoBulk d + 1
  | (_, d) => uptoBulk d + 1
 end
def uptoSmall : (H : Type) → List (DataW H) → Bool := fun _ ds => decide (uptoBulkAll ds ≤ 1048576)
def OpenSpec.upto (s : _root_.Go.ChangeSpec) : _root_.Go.OpenSpec := { _root_.Go.OpenSpec.ofChange s with cond := some uptoSmall }

/-- 'rollbacknetlaw01.TokenScans', WHERE WHAT IT READS IS OF BULK AT MOST 1048576: true; the input reads as it did. -/
def tokenScansUptoRow : OpenClaim := { program := "ytkkmdjkahdglhaa", sum := "7d6609e0998af9c9a64ddfa3f4cc219aa4567aed4cc3cc54ed7a1c390ab8dba3", func := "rollbacknet/rollbacknetlaw01.TokenScans", spec := "tokenScans", apart := false, narrowed := true }
def TokenScansUptoSaid : Prop := tokenScansUptoRow.holds Try.pinned (OpenSpec.upto tokenScansSpec)

/-- 'rollbacknetlaw01.TokenNumbers', WHERE WHAT IT READS IS OF BULK AT MOST 1048576: true; the input reads as it did. -/
def tokenNumbersUptoRow : OpenClaim := { program := "ytkkmdjkahdglhaa", sum := "7d6609e0998af9c9a64ddfa3f4cc219aa4567aed4cc3cc54ed7a1c390ab8dba3", func := "rollbacknet/rollbacknetlaw01.TokenNumbers", spec := "tokenNumbers", apart := false, narrowed := true }
def TokenNumbersUptoSaid : Prop := tokenNumbersUptoRow.holds Try.pinned (OpenSpec.upto tokenNumbersSpec)

/-- 'rollbacknetlaw01.TokenNames', WHERE WHAT IT READS IS OF BULK AT MOST 1048576: true; the input reads as it did. -/
def tokenNamesUptoRow : OpenClaim := { program := "ytkkmdjkahdglhaa", sum := "7d6609e0998af9c9a64ddfa3f4cc219aa4567aed4cc3cc54ed7a1c390ab8dba3", func := "rollbacknet/rollbacknetlaw01.TokenNames", spec := "tokenNames", apart := false, narrowed := true }
def TokenNamesUptoSaid : Prop := tokenNamesUptoRow.holds Try.pinned (OpenSpec.upto tokenNamesSpec)

end Rows
end Go.Proofs.Ytkkmdjkahdglhaa
