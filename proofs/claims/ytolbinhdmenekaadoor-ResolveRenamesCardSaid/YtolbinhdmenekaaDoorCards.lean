/-
  DERIVED. GIVEN WITH THE SEED: THE CARDS: each row of YtolbinhdmenekaaDoorRows.lean that lists a variable, with what it lists TIED to the program's text (the seventh form; the later family's looks); each row that meets fmt, with fmt's text TOLD by the authors' own Lean function (tested against real Go, not proved from fmt's source: count such statements apart). THE CARD IS WHAT COUNTS. Prove the row's statement (the work); the ties are given (YtolbinhdmenekaaDoorTie.lean); close each card by the builder's one call (the guide's Derived/Test/ToyasCard.lean, 'card_holds'). Laid BY PROGRAM, IN A SANDBOX (cutbox-door.mjs). By AI agents, Wed Nov 11 2026. No macro, syntax, notation, axiom, sorry.
-/
import Derived.Test.YtolbinhdmenekaaDoorRows
import GoSem.ClaimSeven
namespace Go.Proofs.YtolbinhdmenekaaDoor
namespace Rows

/-- THE TIED CARD OF 'rollbacknetlaw03.ResolveCodes'. -/
def resolveCodesCard : Claim7 := { stood := { row := resolveCodesRow, standIns := [], harness := (true, "87da42fcfd54b75ab3135c69ab746707f0875cf1d0b7003cbe3f6a1b883e8766"), looks := false }, kinds := [], alts := [], laidByText := true, laidKinds := [.data, .data], laidTests := true, laidLooks := .later }
def ResolveCodesCardSaid : Prop := Claim7.holds Tryd.pinned (.plain (OpenSpec.ofChange resolveCodesSpec)) resolveCodesCard

/-- THE TIED CARD OF 'rollbacknetlaw03.ResolveCells'. -/
def resolveCellsCard : Claim7 := { stood := { row := resolveCellsRow, standIns := [], harness := (true, "87da42fcfd54b75ab3135c69ab746707f0875cf1d0b7003cbe3f6a1b883e8766"), looks := false }, kinds := [], alts := [], laidByText := true, laidKinds := [.data, .data], laidTests := true, laidLooks := .later }
def ResolveCellsCardSaid : Prop := Claim7.holds Tryd.pinned (.plain (OpenSpec.ofChange resolveCellsSpec)) resolveCellsCard

/-- THE TIED CARD OF 'rollbacknetlaw03.ResolveRenames'. -/
def resolveRenamesCard : Claim7 := { stood := { row := resolveRenamesRow, standIns := [], harness := (true, "87da42fcfd54b75ab3135c69ab746707f0875cf1d0b7003cbe3f6a1b883e8766"), looks := false }, kinds := [], alts := [], laidByText := true, laidKinds := [.data, .data], laidTests := true, laidLooks := .later }
def ResolveRenamesCardSaid : Prop := Claim7.holds Tryd.pinned (.plain (OpenSpec.ofChange resolveRenamesSpec)) resolveRenamesCard

/-- THE SECOND FORM's CARD OF 'rollbacknetlaw03.ResolveCodes'. -/
def resolveCodesUptoCard : Claim7 := { stood := { row := resolveCodesUptoRow, standIns := [], harness := (true, "87da42fcfd54b75ab3135c69ab746707f0875cf1d0b7003cbe3f6a1b883e8766"), looks := false }, kinds := [], alts := [], laidByText := true, laidKinds := [.data, .data], laidTests := true, laidLooks := .later }
def ResolveCodesUptoCardSaid : Prop := Claim7.holds Tryd.pinned (.plain (OpenSpec.upto resolveCodesSpec)) resolveCodesUptoCard

/-- THE SECOND FORM's CARD OF 'rollbacknetlaw03.ResolveCells'. -/
def resolveCellsUptoCard : Claim7 := { stood := { row := resolveCellsUptoRow, standIns := [], harness := (true, "87da42fcfd54b75ab3135c69ab746707f0875cf1d0b7003cbe3f6a1b883e8766"), looks := false }, kinds := [], alts := [], laidByText := true, laidKinds := [.data, .data], laidTests := true, laidLooks := .later }
def ResolveCellsUptoCardSaid : Prop := Claim7.holds Tryd.pinned (.plain (OpenSpec.upto resolveCellsSpec)) resolveCellsUptoCard

/-- THE SECOND FORM's CARD OF 'rollbacknetlaw03.ResolveRenames'. -/
def resolveRenamesUptoCard : Claim7 := { stood := { row := resolveRenamesUptoRow, standIns := [], harness := (true, "87da42fcfd54b75ab3135c69ab746707f0875cf1d0b7003cbe3f6a1b883e8766"), looks := false }, kinds := [], alts := [], laidByText := true, laidKinds := [.data, .data], laidTests := true, laidLooks := .later }
def ResolveRenamesUptoCardSaid : Prop := Claim7.holds Tryd.pinned (.plain (OpenSpec.upto resolveRenamesSpec)) resolveRenamesUptoCard
end Rows
end Go.Proofs.YtolbinhdmenekaaDoor
