/-
  DERIVED. GIVEN WITH THE SEED: THE CARDS: each row of YtohdhckafebmhaaDoorRows.lean that lists a variable, with what it lists TIED to the program's text (the seventh form; the later family's looks); each row that meets fmt, with fmt's text TOLD by the authors' own Lean function (tested against real Go, not proved from fmt's source: count such statements apart). THE CARD IS WHAT COUNTS. Prove the row's statement (the work); the ties are given (YtohdhckafebmhaaDoorTie.lean); close each card by the builder's one call (the guide's Derived/Test/ToyasCard.lean, 'card_holds'). Laid BY PROGRAM, IN A SANDBOX (cutbox-door.mjs). By AI agents, Wed Nov 11 2026. No macro, syntax, notation, axiom, sorry.
-/
import Derived.Test.YtohdhckafebmhaaDoorRows
import GoSem.ClaimSeven
namespace Go.Proofs.YtohdhckafebmhaaDoor
namespace Rows

/-- THE TIED CARD OF 'troupelaw10.VetModules'. -/
def vetModulesCard : Claim7 := { stood := { row := vetModulesRow, standIns := [], harness := (true, "58b591ebd5716cd2364ca0256bb094a4cb52bcef7a5626ffc251009fb3e3735d"), looks := true }, kinds := [], alts := [], laidByText := true, laidKinds := [.listed, .data], laidTests := true, laidLooks := .later }
def VetModulesCardSaid : Prop := Claim7.holds Tryd.pinned (.plain (OpenSpec.ofChange vetModulesSpec)) vetModulesCard

/-- THE TIED CARD OF 'troupelaw10.VetTurns'. -/
def vetTurnsCard : Claim7 := { stood := { row := vetTurnsRow, standIns := [], harness := (true, "58b591ebd5716cd2364ca0256bb094a4cb52bcef7a5626ffc251009fb3e3735d"), looks := true }, kinds := [], alts := [], laidByText := true, laidKinds := [.listed, .data], laidTests := true, laidLooks := .later }
def VetTurnsCardSaid : Prop := Claim7.holds Tryd.pinned (.plain (OpenSpec.ofChange vetTurnsSpec)) vetTurnsCard

/-- THE TIED CARD OF 'troupelaw10.VetNests'. -/
def vetNestsCard : Claim7 := { stood := { row := vetNestsRow, standIns := [], harness := (true, "58b591ebd5716cd2364ca0256bb094a4cb52bcef7a5626ffc251009fb3e3735d"), looks := true }, kinds := [], alts := [], laidByText := true, laidKinds := [.listed, .data], laidTests := true, laidLooks := .later }
def VetNestsCardSaid : Prop := Claim7.holds Tryd.pinned (.plain (OpenSpec.ofChange vetNestsSpec)) vetNestsCard

/-- THE TIED CARD OF 'troupelaw10.VetOperands'. -/
def vetOperandsCard : Claim7 := { stood := { row := vetOperandsRow, standIns := [], harness := (true, "58b591ebd5716cd2364ca0256bb094a4cb52bcef7a5626ffc251009fb3e3735d"), looks := true }, kinds := [], alts := [], laidByText := true, laidKinds := [.listed, .data], laidTests := true, laidLooks := .later }
def VetOperandsCardSaid : Prop := Claim7.holds Tryd.pinned (.plain (OpenSpec.ofChange vetOperandsSpec)) vetOperandsCard

/-- THE TIED CARD OF 'troupelaw10.VetLabels'. -/
def vetLabelsCard : Claim7 := { stood := { row := vetLabelsRow, standIns := [], harness := (true, "58b591ebd5716cd2364ca0256bb094a4cb52bcef7a5626ffc251009fb3e3735d"), looks := true }, kinds := [], alts := [], laidByText := true, laidKinds := [.listed, .data], laidTests := true, laidLooks := .later }
def VetLabelsCardSaid : Prop := Claim7.holds Tryd.pinned (.plain (OpenSpec.ofChange vetLabelsSpec)) vetLabelsCard

/-- THE TIED CARD OF 'troupelaw10.VetRows'. -/
def vetRowsCard : Claim7 := { stood := { row := vetRowsRow, standIns := [], harness := (true, "58b591ebd5716cd2364ca0256bb094a4cb52bcef7a5626ffc251009fb3e3735d"), looks := true }, kinds := [], alts := [], laidByText := true, laidKinds := [.listed, .data], laidTests := true, laidLooks := .later }
def VetRowsCardSaid : Prop := Claim7.holds Tryd.pinned (.plain (OpenSpec.ofChange vetRowsSpec)) vetRowsCard

/-- THE TIED CARD OF 'troupelaw10.VetTries'. -/
def vetTriesCard : Claim7 := { stood := { row := vetTriesRow, standIns := [], harness := (true, "58b591ebd5716cd2364ca0256bb094a4cb52bcef7a5626ffc251009fb3e3735d"), looks := true }, kinds := [], alts := [], laidByText := true, laidKinds := [.handle, .listed, .data], laidTests := true, laidLooks := .later }
def VetTriesCardSaid : Prop := Claim7.holds Tryd.pinned (.plain (OpenSpec.ofChange vetTriesSpec)) vetTriesCard

/-- THE TIED CARD OF 'troupelaw10.VetDead'. -/
def vetDeadCard : Claim7 := { stood := { row := vetDeadRow, standIns := [], harness := (true, "58b591ebd5716cd2364ca0256bb094a4cb52bcef7a5626ffc251009fb3e3735d"), looks := true }, kinds := [], alts := [], laidByText := true, laidKinds := [.handle, .listed, .data], laidTests := true, laidLooks := .later }
def VetDeadCardSaid : Prop := Claim7.holds Tryd.pinned (.plain (OpenSpec.ofChange vetDeadSpec)) vetDeadCard

/-- THE SECOND FORM's CARD OF 'troupelaw10.VetModules'. -/
def vetModulesUptoCard : Claim7 := { stood := { row := vetModulesUptoRow, standIns := [], harness := (true, "58b591ebd5716cd2364ca0256bb094a4cb52bcef7a5626ffc251009fb3e3735d"), looks := true }, kinds := [], alts := [], laidByText := true, laidKinds := [.listed, .data], laidTests := true, laidLooks := .later }
def VetModulesUptoCardSaid : Prop := Claim7.holds Tryd.pinned (.plain (OpenSpec.upto vetModulesSpec)) vetModulesUptoCard

/-- THE SECOND FORM's CARD OF 'troupelaw10.VetTurns'. -/
def vetTurnsUptoCard : Claim7 := { stood := { row := vetTurnsUptoRow, standIns := [], harness := (true, "58b591ebd5716cd2364ca0256bb094a4cb52bcef7a5626ffc251009fb3e3735d"), looks := true }, kinds := [], alts := [], laidByText := true, laidKinds := [.listed, .data], laidTests := true, laidLooks := .later }
def VetTurnsUptoCardSaid : Prop := Claim7.holds Tryd.pinned (.plain (OpenSpec.upto vetTurnsSpec)) vetTurnsUptoCard

/-- THE SECOND FORM's CARD OF 'troupelaw10.VetNests'. -/
def vetNestsUptoCard : Claim7 := { stood := { row := vetNestsUptoRow, standIns := [], harness := (true, "58b591ebd5716cd2364ca0256bb094a4cb52bcef7a5626ffc251009fb3e3735d"), looks := true }, kinds := [], alts := [], laidByText := true, laidKinds := [.listed, .data], laidTests := true, laidLooks := .later }
def VetNestsUptoCardSaid : Prop := Claim7.holds Tryd.pinned (.plain (OpenSpec.upto vetNestsSpec)) vetNestsUptoCard

/-- THE SECOND FORM's CARD OF 'troupelaw10.VetOperands'. -/
def vetOperandsUptoCard : Claim7 := { stood := { row := vetOperandsUptoRow, standIns := [], harness := (true, "58b591ebd5716cd2364ca0256bb094a4cb52bcef7a5626ffc251009fb3e3735d"), looks := true }, kinds := [], alts := [], laidByText := true, laidKinds := [.listed, .data], laidTests := true, laidLooks := .later }
def VetOperandsUptoCardSaid : Prop := Claim7.holds Tryd.pinned (.plain (OpenSpec.upto vetOperandsSpec)) vetOperandsUptoCard

/-- THE SECOND FORM's CARD OF 'troupelaw10.VetLabels'. -/
def vetLabelsUptoCard : Claim7 := { stood := { row := vetLabelsUptoRow, standIns := [], harness := (true, "58b591ebd5716cd2364ca0256bb094a4cb52bcef7a5626ffc251009fb3e3735d"), looks := true }, kinds := [], alts := [], laidByText := true, laidKinds := [.listed, .data], laidTests := true, laidLooks := .later }
def VetLabelsUptoCardSaid : Prop := Claim7.holds Tryd.pinned (.plain (OpenSpec.upto vetLabelsSpec)) vetLabelsUptoCard

/-- THE SECOND FORM's CARD OF 'troupelaw10.VetRows'. -/
def vetRowsUptoCard : Claim7 := { stood := { row := vetRowsUptoRow, standIns := [], harness := (true, "58b591ebd5716cd2364ca0256bb094a4cb52bcef7a5626ffc251009fb3e3735d"), looks := true }, kinds := [], alts := [], laidByText := true, laidKinds := [.listed, .data], laidTests := true, laidLooks := .later }
def VetRowsUptoCardSaid : Prop := Claim7.holds Tryd.pinned (.plain (OpenSpec.upto vetRowsSpec)) vetRowsUptoCard

/-- THE SECOND FORM's CARD OF 'troupelaw10.VetTries'. -/
def vetTriesUptoCard : Claim7 := { stood := { row := vetTriesUptoRow, standIns := [], harness := (true, "58b591ebd5716cd2364ca0256bb094a4cb52bcef7a5626ffc251009fb3e3735d"), looks := true }, kinds := [], alts := [], laidByText := true, laidKinds := [.handle, .listed, .data], laidTests := true, laidLooks := .later }
def VetTriesUptoCardSaid : Prop := Claim7.holds Tryd.pinned (.plain (OpenSpec.upto vetTriesSpec)) vetTriesUptoCard

/-- THE SECOND FORM's CARD OF 'troupelaw10.VetDead'. -/
def vetDeadUptoCard : Claim7 := { stood := { row := vetDeadUptoRow, standIns := [], harness := (true, "58b591ebd5716cd2364ca0256bb094a4cb52bcef7a5626ffc251009fb3e3735d"), looks := true }, kinds := [], alts := [], laidByText := true, laidKinds := [.handle, .listed, .data], laidTests := true, laidLooks := .later }
def VetDeadUptoCardSaid : Prop := Claim7.holds Tryd.pinned (.plain (OpenSpec.upto vetDeadSpec)) vetDeadUptoCard
end Rows
end Go.Proofs.YtohdhckafebmhaaDoor
