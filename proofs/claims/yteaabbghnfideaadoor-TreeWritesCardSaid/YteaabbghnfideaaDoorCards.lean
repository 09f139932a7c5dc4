/-
  DERIVED. GIVEN WITH THE SEED: THE CARDS: each row of YteaabbghnfideaaDoorRows.lean that lists a variable, with what it lists TIED to the program's text (the seventh form; the later family's looks); each row that meets fmt, with fmt's text TOLD by the authors' own Lean function (tested against real Go, not proved from fmt's source: count such statements apart). THE CARD IS WHAT COUNTS. Prove the row's statement (the work); the ties are given (YteaabbghnfideaaDoorTie.lean); close each card by the builder's one call (the guide's Derived/Test/ToyasCard.lean, 'card_holds'). Laid BY PROGRAM, IN A SANDBOX (cutbox-door.mjs). By AI agents, Wed Nov 11 2026. No macro, syntax, notation, axiom, sorry.
-/
import Derived.Test.YteaabbghnfideaaDoorRows
import GoSem.ClaimSeven
namespace Go.Proofs.YteaabbghnfideaaDoor
namespace Rows

/-- THE TIED CARD OF 'troupelaw02.TreeRights'. -/
def treeRightsCard : Claim7 := { stood := { row := treeRightsRow, standIns := [], harness := (true, "bc2b4930149423d21dea1d26c9866fae07f058f731df48a0cbb2e993648befba"), looks := true }, kinds := [], alts := [], laidByText := true, laidKinds := [.data, .data, .data], laidTests := true, laidLooks := .later }
def TreeRightsCardSaid : Prop := Claim7.holds Tryd.pinned (.plain (OpenSpec.ofChange treeRightsSpec)) treeRightsCard

/-- THE TIED CARD OF 'troupelaw02.TreeWrites'. -/
def treeWritesCard : Claim7 := { stood := { row := treeWritesRow, standIns := [], harness := (true, "bc2b4930149423d21dea1d26c9866fae07f058f731df48a0cbb2e993648befba"), looks := true }, kinds := [], alts := [], laidByText := true, laidKinds := [.data, .data, .data], laidTests := true, laidLooks := .later }
def TreeWritesCardSaid : Prop := Claim7.holds Tryd.pinned (.plain (OpenSpec.ofChange treeWritesSpec)) treeWritesCard

/-- THE TIED CARD OF 'troupelaw02.TreeOrders'. -/
def treeOrdersCard : Claim7 := { stood := { row := treeOrdersRow, standIns := [], harness := (true, "bc2b4930149423d21dea1d26c9866fae07f058f731df48a0cbb2e993648befba"), looks := true }, kinds := [], alts := [], laidByText := true, laidKinds := [.data, .data, .data], laidTests := true, laidLooks := .later }
def TreeOrdersCardSaid : Prop := Claim7.holds Tryd.pinned (.plain (OpenSpec.ofChange treeOrdersSpec)) treeOrdersCard

/-- THE TIED CARD OF 'troupelaw02.TreeDeep'. -/
def treeDeepCard : Claim7 := { stood := { row := treeDeepRow, standIns := [], harness := (true, "bc2b4930149423d21dea1d26c9866fae07f058f731df48a0cbb2e993648befba"), looks := true }, kinds := [], alts := [], laidByText := true, laidKinds := [.data, .data, .data], laidTests := true, laidLooks := .later }
def TreeDeepCardSaid : Prop := Claim7.holds Tryd.pinned (.plain (OpenSpec.ofChange treeDeepSpec)) treeDeepCard

/-- THE TIED CARD OF 'troupelaw02.TreeParts'. -/
def treePartsCard : Claim7 := { stood := { row := treePartsRow, standIns := [], harness := (true, "bc2b4930149423d21dea1d26c9866fae07f058f731df48a0cbb2e993648befba"), looks := true }, kinds := [], alts := [], laidByText := true, laidKinds := [.data, .data, .data], laidTests := true, laidLooks := .later }
def TreePartsCardSaid : Prop := Claim7.holds Tryd.pinned (.plain (OpenSpec.ofChange treePartsSpec)) treePartsCard

/-- THE TIED CARD OF 'troupelaw02.TreeCompares'. -/
def treeComparesCard : Claim7 := { stood := { row := treeComparesRow, standIns := [], harness := (true, "bc2b4930149423d21dea1d26c9866fae07f058f731df48a0cbb2e993648befba"), looks := true }, kinds := [], alts := [], laidByText := true, laidKinds := [.data, .data, .data], laidTests := true, laidLooks := .later }
def TreeComparesCardSaid : Prop := Claim7.holds Tryd.pinned (.plain (OpenSpec.ofChange treeComparesSpec)) treeComparesCard

/-- THE TIED CARD OF 'troupelaw02.TreeWords'. -/
def treeWordsCard : Claim7 := { stood := { row := treeWordsRow, standIns := [], harness := (true, "bc2b4930149423d21dea1d26c9866fae07f058f731df48a0cbb2e993648befba"), looks := true }, kinds := [], alts := [], laidByText := true, laidKinds := [.data, .data, .data], laidTests := true, laidLooks := .later }
def TreeWordsCardSaid : Prop := Claim7.holds Tryd.pinned (.plain (OpenSpec.ofChange treeWordsSpec)) treeWordsCard

/-- THE TIED CARD OF 'troupelaw02.TreeKept'. -/
def treeKeptCard : Claim7 := { stood := { row := treeKeptRow, standIns := [], harness := (true, "bc2b4930149423d21dea1d26c9866fae07f058f731df48a0cbb2e993648befba"), looks := true }, kinds := [], alts := [], laidByText := true, laidKinds := [.data, .data, .data], laidTests := true, laidLooks := .later }
def TreeKeptCardSaid : Prop := Claim7.holds Tryd.pinned (.plain (OpenSpec.ofChange treeKeptSpec)) treeKeptCard

/-- THE TIED CARD OF 'troupelaw02.TreeRound'. -/
def treeRoundCard : Claim7 := { stood := { row := treeRoundRow, standIns := [], harness := (true, "bc2b4930149423d21dea1d26c9866fae07f058f731df48a0cbb2e993648befba"), looks := true }, kinds := [], alts := [], laidByText := true, laidKinds := [.data, .data, .data], laidTests := true, laidLooks := .later }
def TreeRoundCardSaid : Prop := Claim7.holds Tryd.pinned (.plain (OpenSpec.ofChange treeRoundSpec)) treeRoundCard

/-- THE TIED CARD OF 'troupelaw02.TreeNumbers'. -/
def treeNumbersCard : Claim7 := { stood := { row := treeNumbersRow, standIns := [], harness := (true, "bc2b4930149423d21dea1d26c9866fae07f058f731df48a0cbb2e993648befba"), looks := true }, kinds := [], alts := [], laidByText := true, laidKinds := [.data, .data, .data], laidTests := true, laidLooks := .later }
def TreeNumbersCardSaid : Prop := Claim7.holds Tryd.pinned (.plain (OpenSpec.ofChange treeNumbersSpec)) treeNumbersCard

/-- THE TIED CARD OF 'troupelaw02.TreeAtoms'. -/
def treeAtomsCard : Claim7 := { stood := { row := treeAtomsRow, standIns := [], harness := (true, "bc2b4930149423d21dea1d26c9866fae07f058f731df48a0cbb2e993648befba"), looks := true }, kinds := [], alts := [], laidByText := true, laidKinds := [.data, .data, .data], laidTests := true, laidLooks := .later }
def TreeAtomsCardSaid : Prop := Claim7.holds Tryd.pinned (.plain (OpenSpec.ofChange treeAtomsSpec)) treeAtomsCard

/-- THE SECOND FORM's CARD OF 'troupelaw02.TreeRights'. -/
def treeRightsUptoCard : Claim7 := { stood := { row := treeRightsUptoRow, standIns := [], harness := (true, "bc2b4930149423d21dea1d26c9866fae07f058f731df48a0cbb2e993648befba"), looks := true }, kinds := [], alts := [], laidByText := true, laidKinds := [.data, .data, .data], laidTests := true, laidLooks := .later }
def TreeRightsUptoCardSaid : Prop := Claim7.holds Tryd.pinned (.plain (OpenSpec.upto treeRightsSpec)) treeRightsUptoCard

/-- THE SECOND FORM's CARD OF 'troupelaw02.TreeWrites'. -/
def treeWritesUptoCard : Claim7 := { stood := { row := treeWritesUptoRow, standIns := [], harness := (true, "bc2b4930149423d21dea1d26c9866fae07f058f731df48a0cbb2e993648befba"), looks := true }, kinds := [], alts := [], laidByText := true, laidKinds := [.data, .data, .data], laidTests := true, laidLooks := .later }
def TreeWritesUptoCardSaid : Prop := Claim7.holds Tryd.pinned (.plain (OpenSpec.upto treeWritesSpec)) treeWritesUptoCard

/-- THE SECOND FORM's CARD OF 'troupelaw02.TreeOrders'. -/
def treeOrdersUptoCard : Claim7 := { stood := { row := treeOrdersUptoRow, standIns := [], harness := (true, "bc2b4930149423d21dea1d26c9866fae07f058f731df48a0cbb2e993648befba"), looks := true }, kinds := [], alts := [], laidByText := true, laidKinds := [.data, .data, .data], laidTests := true, laidLooks := .later }
def TreeOrdersUptoCardSaid : Prop := Claim7.holds Tryd.pinned (.plain (OpenSpec.upto treeOrdersSpec)) treeOrdersUptoCard

/-- THE SECOND FORM's CARD OF 'troupelaw02.TreeDeep'. -/
def treeDeepUptoCard : Claim7 := { stood := { row := treeDeepUptoRow, standIns := [], harness := (true, "bc2b4930149423d21dea1d26c9866fae07f058f731df48a0cbb2e993648befba"), looks := true }, kinds := [], alts := [], laidByText := true, laidKinds := [.data, .data, .data], laidTests := true, laidLooks := .later }
def TreeDeepUptoCardSaid : Prop := Claim7.holds Tryd.pinned (.plain (OpenSpec.upto treeDeepSpec)) treeDeepUptoCard

/-- THE SECOND FORM's CARD OF 'troupelaw02.TreeParts'. -/
def treePartsUptoCard : Claim7 := { stood := { row := treePartsUptoRow, standIns := [], harness := (true, "bc2b4930149423d21dea1d26c9866fae07f058f731df48a0cbb2e993648befba"), looks := true }, kinds := [], alts := [], laidByText := true, laidKinds := [.data, .data, .data], laidTests := true, laidLooks := .later }
def TreePartsUptoCardSaid : Prop := Claim7.holds Tryd.pinned (.plain (OpenSpec.upto treePartsSpec)) treePartsUptoCard

/-- THE SECOND FORM's CARD OF 'troupelaw02.TreeCompares'. -/
def treeComparesUptoCard : Claim7 := { stood := { row := treeComparesUptoRow, standIns := [], harness := (true, "bc2b4930149423d21dea1d26c9866fae07f058f731df48a0cbb2e993648befba"), looks := true }, kinds := [], alts := [], laidByText := true, laidKinds := [.data, .data, .data], laidTests := true, laidLooks := .later }
def TreeComparesUptoCardSaid : Prop := Claim7.holds Tryd.pinned (.plain (OpenSpec.upto treeComparesSpec)) treeComparesUptoCard

/-- THE SECOND FORM's CARD OF 'troupelaw02.TreeWords'. -/
def treeWordsUptoCard : Claim7 := { stood := { row := treeWordsUptoRow, standIns := [], harness := (true, "bc2b4930149423d21dea1d26c9866fae07f058f731df48a0cbb2e993648befba"), looks := true }, kinds := [], alts := [], laidByText := true, laidKinds := [.data, .data, .data], laidTests := true, laidLooks := .later }
def TreeWordsUptoCardSaid : Prop := Claim7.holds Tryd.pinned (.plain (OpenSpec.upto treeWordsSpec)) treeWordsUptoCard

/-- THE SECOND FORM's CARD OF 'troupelaw02.TreeKept'. -/
def treeKeptUptoCard : Claim7 := { stood := { row := treeKeptUptoRow, standIns := [], harness := (true, "bc2b4930149423d21dea1d26c9866fae07f058f731df48a0cbb2e993648befba"), looks := true }, kinds := [], alts := [], laidByText := true, laidKinds := [.data, .data, .data], laidTests := true, laidLooks := .later }
def TreeKeptUptoCardSaid : Prop := Claim7.holds Tryd.pinned (.plain (OpenSpec.upto treeKeptSpec)) treeKeptUptoCard

/-- THE SECOND FORM's CARD OF 'troupelaw02.TreeRound'. -/
def treeRoundUptoCard : Claim7 := { stood := { row := treeRoundUptoRow, standIns := [], harness := (true, "bc2b4930149423d21dea1d26c9866fae07f058f731df48a0cbb2e993648befba"), looks := true }, kinds := [], alts := [], laidByText := true, laidKinds := [.data, .data, .data], laidTests := true, laidLooks := .later }
def TreeRoundUptoCardSaid : Prop := Claim7.holds Tryd.pinned (.plain (OpenSpec.upto treeRoundSpec)) treeRoundUptoCard

/-- THE SECOND FORM's CARD OF 'troupelaw02.TreeNumbers'. -/
def treeNumbersUptoCard : Claim7 := { stood := { row := treeNumbersUptoRow, standIns := [], harness := (true, "bc2b4930149423d21dea1d26c9866fae07f058f731df48a0cbb2e993648befba"), looks := true }, kinds := [], alts := [], laidByText := true, laidKinds := [.data, .data, .data], laidTests := true, laidLooks := .later }
def TreeNumbersUptoCardSaid : Prop := Claim7.holds Tryd.pinned (.plain (OpenSpec.upto treeNumbersSpec)) treeNumbersUptoCard

/-- THE SECOND FORM's CARD OF 'troupelaw02.TreeAtoms'. -/
def treeAtomsUptoCard : Claim7 := { stood := { row := treeAtomsUptoRow, standIns := [], harness := (true, "bc2b4930149423d21dea1d26c9866fae07f058f731df48a0cbb2e993648befba"), looks := true }, kinds := [], alts := [], laidByText := true, laidKinds := [.data, .data, .data], laidTests := true, laidLooks := .later }
def TreeAtomsUptoCardSaid : Prop := Claim7.holds Tryd.pinned (.plain (OpenSpec.upto treeAtomsSpec)) treeAtomsUptoCard
end Rows
end Go.Proofs.YteaabbghnfideaaDoor
