/-
  DERIVED. GIVEN WITH THE SEED: THE CARDS: each row of YtlgogflhjpcmlaaDoorRows.lean that lists a variable, with what it lists TIED to the program's text (the seventh form; the later family's looks); each row that meets fmt, with fmt's text TOLD by the authors' own Lean function (tested against real Go, not proved from fmt's source: count such statements apart). THE CARD IS WHAT COUNTS. Prove the row's statement (the work); the ties are given (YtlgogflhjpcmlaaDoorTie.lean); close each card by the builder's one call (the guide's Derived/Test/ToyasCard.lean, 'card_holds'). Laid BY PROGRAM, IN A SANDBOX (cutbox-door.mjs). By AI agents, Wed Nov 11 2026. No macro, syntax, notation, axiom, sorry.
-/
import Derived.Test.YtlgogflhjpcmlaaDoorRows
import GoSem.ClaimSeven
namespace Go.Proofs.YtlgogflhjpcmlaaDoor
namespace Rows

/-- THE TIED CARD OF 'troupelaw08.BifNames'. -/
def bifNamesCard : Claim7 := { stood := { row := bifNamesRow, standIns := [], harness := (true, "82c3f7522d23ac9c1e6799b5a6aeaf00a2095cfa9271d97add969dd5740083d2"), looks := false }, kinds := [], alts := [], laidByText := true, laidKinds := [.data, .data, .data, .listed, .data], laidTests := true, laidLooks := .later }
def BifNamesCardSaid : Prop := Claim7.holds Tryd.pinned (.plain (OpenSpec.ofChange bifNamesSpec)) bifNamesCard

/-- THE TIED CARD OF 'troupelaw08.BifKept'. -/
def bifKeptCard : Claim7 := { stood := { row := bifKeptRow, standIns := [], harness := (true, "82c3f7522d23ac9c1e6799b5a6aeaf00a2095cfa9271d97add969dd5740083d2"), looks := false }, kinds := [], alts := [], laidByText := true, laidKinds := [.data, .data, .data, .listed, .data], laidTests := true, laidLooks := .later }
def BifKeptCardSaid : Prop := Claim7.holds Tryd.pinned (.plain (OpenSpec.ofChange bifKeptSpec)) bifKeptCard

/-- THE TIED CARD OF 'troupelaw08.BifSums'. -/
def bifSumsCard : Claim7 := { stood := { row := bifSumsRow, standIns := [], harness := (true, "82c3f7522d23ac9c1e6799b5a6aeaf00a2095cfa9271d97add969dd5740083d2"), looks := false }, kinds := [], alts := [], laidByText := true, laidKinds := [.data, .data, .data, .listed, .data], laidTests := true, laidLooks := .later }
def BifSumsCardSaid : Prop := Claim7.holds Tryd.pinned (.plain (OpenSpec.ofChange bifSumsSpec)) bifSumsCard

/-- THE TIED CARD OF 'troupelaw08.BifLists'. -/
def bifListsCard : Claim7 := { stood := { row := bifListsRow, standIns := [], harness := (true, "82c3f7522d23ac9c1e6799b5a6aeaf00a2095cfa9271d97add969dd5740083d2"), looks := false }, kinds := [], alts := [], laidByText := true, laidKinds := [.data, .data, .data, .listed, .data], laidTests := true, laidLooks := .later }
def BifListsCardSaid : Prop := Claim7.holds Tryd.pinned (.plain (OpenSpec.ofChange bifListsSpec)) bifListsCard

/-- THE TIED CARD OF 'troupelaw08.BifBins'. -/
def bifBinsCard : Claim7 := { stood := { row := bifBinsRow, standIns := [], harness := (true, "82c3f7522d23ac9c1e6799b5a6aeaf00a2095cfa9271d97add969dd5740083d2"), looks := false }, kinds := [], alts := [], laidByText := true, laidKinds := [.data, .data, .data, .listed, .data], laidTests := true, laidLooks := .later }
def BifBinsCardSaid : Prop := Claim7.holds Tryd.pinned (.plain (OpenSpec.ofChange bifBinsSpec)) bifBinsCard

/-- THE TIED CARD OF 'troupelaw08.BifOrders'. -/
def bifOrdersCard : Claim7 := { stood := { row := bifOrdersRow, standIns := [], harness := (true, "82c3f7522d23ac9c1e6799b5a6aeaf00a2095cfa9271d97add969dd5740083d2"), looks := false }, kinds := [], alts := [], laidByText := true, laidKinds := [.data, .data, .data, .listed, .data], laidTests := true, laidLooks := .later }
def BifOrdersCardSaid : Prop := Claim7.holds Tryd.pinned (.plain (OpenSpec.ofChange bifOrdersSpec)) bifOrdersCard

/-- THE TIED CARD OF 'troupelaw08.BifTuples'. -/
def bifTuplesCard : Claim7 := { stood := { row := bifTuplesRow, standIns := [], harness := (true, "82c3f7522d23ac9c1e6799b5a6aeaf00a2095cfa9271d97add969dd5740083d2"), looks := false }, kinds := [], alts := [], laidByText := true, laidKinds := [.data, .data, .data, .listed, .data], laidTests := true, laidLooks := .later }
def BifTuplesCardSaid : Prop := Claim7.holds Tryd.pinned (.plain (OpenSpec.ofChange bifTuplesSpec)) bifTuplesCard

/-- THE TIED CARD OF 'troupelaw08.BifSeqs'. -/
def bifSeqsCard : Claim7 := { stood := { row := bifSeqsRow, standIns := [], harness := (true, "82c3f7522d23ac9c1e6799b5a6aeaf00a2095cfa9271d97add969dd5740083d2"), looks := false }, kinds := [], alts := [], laidByText := true, laidKinds := [.data, .data, .data, .listed, .data], laidTests := true, laidLooks := .later }
def BifSeqsCardSaid : Prop := Claim7.holds Tryd.pinned (.plain (OpenSpec.ofChange bifSeqsSpec)) bifSeqsCard

/-- THE TIED CARD OF 'troupelaw08.BifBits'. -/
def bifBitsCard : Claim7 := { stood := { row := bifBitsRow, standIns := [], harness := (true, "82c3f7522d23ac9c1e6799b5a6aeaf00a2095cfa9271d97add969dd5740083d2"), looks := false }, kinds := [], alts := [], laidByText := true, laidKinds := [.data, .data, .data, .listed, .data], laidTests := true, laidLooks := .later }
def BifBitsCardSaid : Prop := Claim7.holds Tryd.pinned (.plain (OpenSpec.ofChange bifBitsSpec)) bifBitsCard

/-- THE TIED CARD OF 'troupelaw08.BifKinds'. -/
def bifKindsCard : Claim7 := { stood := { row := bifKindsRow, standIns := [], harness := (true, "82c3f7522d23ac9c1e6799b5a6aeaf00a2095cfa9271d97add969dd5740083d2"), looks := false }, kinds := [], alts := [], laidByText := true, laidKinds := [.data, .data, .data, .listed, .data], laidTests := true, laidLooks := .later }
def BifKindsCardSaid : Prop := Claim7.holds Tryd.pinned (.plain (OpenSpec.ofChange bifKindsSpec)) bifKindsCard

/-- THE SECOND FORM's CARD OF 'troupelaw08.BifNames'. -/
def bifNamesUptoCard : Claim7 := { stood := { row := bifNamesUptoRow, standIns := [], harness := (true, "82c3f7522d23ac9c1e6799b5a6aeaf00a2095cfa9271d97add969dd5740083d2"), looks := false }, kinds := [], alts := [], laidByText := true, laidKinds := [.data, .data, .data, .listed, .data], laidTests := true, laidLooks := .later }
def BifNamesUptoCardSaid : Prop := Claim7.holds Tryd.pinned (.plain (OpenSpec.upto bifNamesSpec)) bifNamesUptoCard

/-- THE SECOND FORM's CARD OF 'troupelaw08.BifKept'. -/
def bifKeptUptoCard : Claim7 := { stood := { row := bifKeptUptoRow, standIns := [], harness := (true, "82c3f7522d23ac9c1e6799b5a6aeaf00a2095cfa9271d97add969dd5740083d2"), looks := false }, kinds := [], alts := [], laidByText := true, laidKinds := [.data, .data, .data, .listed, .data], laidTests := true, laidLooks := .later }
def BifKeptUptoCardSaid : Prop := Claim7.holds Tryd.pinned (.plain (OpenSpec.upto bifKeptSpec)) bifKeptUptoCard

/-- THE SECOND FORM's CARD OF 'troupelaw08.BifSums'. -/
def bifSumsUptoCard : Claim7 := { stood := { row := bifSumsUptoRow, standIns := [], harness := (true, "82c3f7522d23ac9c1e6799b5a6aeaf00a2095cfa9271d97add969dd5740083d2"), looks := false }, kinds := [], alts := [], laidByText := true, laidKinds := [.data, .data, .data, .listed, .data], laidTests := true, laidLooks := .later }
def BifSumsUptoCardSaid : Prop := Claim7.holds Tryd.pinned (.plain (OpenSpec.upto bifSumsSpec)) bifSumsUptoCard

/-- THE SECOND FORM's CARD OF 'troupelaw08.BifLists'. -/
def bifListsUptoCard : Claim7 := { stood := { row := bifListsUptoRow, standIns := [], harness := (true, "82c3f7522d23ac9c1e6799b5a6aeaf00a2095cfa9271d97add969dd5740083d2"), looks := false }, kinds := [], alts := [], laidByText := true, laidKinds := [.data, .data, .data, .listed, .data], laidTests := true, laidLooks := .later }
def BifListsUptoCardSaid : Prop := Claim7.holds Tryd.pinned (.plain (OpenSpec.upto bifListsSpec)) bifListsUptoCard

/-- THE SECOND FORM's CARD OF 'troupelaw08.BifBins'. -/
def bifBinsUptoCard : Claim7 := { stood := { row := bifBinsUptoRow, standIns := [], harness := (true, "82c3f7522d23ac9c1e6799b5a6aeaf00a2095cfa9271d97add969dd5740083d2"), looks := false }, kinds := [], alts := [], laidByText := true, laidKinds := [.data, .data, .data, .listed, .data], laidTests := true, laidLooks := .later }
def BifBinsUptoCardSaid : Prop := Claim7.holds Tryd.pinned (.plain (OpenSpec.upto bifBinsSpec)) bifBinsUptoCard

/-- THE SECOND FORM's CARD OF 'troupelaw08.BifOrders'. -/
def bifOrdersUptoCard : Claim7 := { stood := { row := bifOrdersUptoRow, standIns := [], harness := (true, "82c3f7522d23ac9c1e6799b5a6aeaf00a2095cfa9271d97add969dd5740083d2"), looks := false }, kinds := [], alts := [], laidByText := true, laidKinds := [.data, .data, .data, .listed, .data], laidTests := true, laidLooks := .later }
def BifOrdersUptoCardSaid : Prop := Claim7.holds Tryd.pinned (.plain (OpenSpec.upto bifOrdersSpec)) bifOrdersUptoCard

/-- THE SECOND FORM's CARD OF 'troupelaw08.BifTuples'. -/
def bifTuplesUptoCard : Claim7 := { stood := { row := bifTuplesUptoRow, standIns := [], harness := (true, "82c3f7522d23ac9c1e6799b5a6aeaf00a2095cfa9271d97add969dd5740083d2"), looks := false }, kinds := [], alts := [], laidByText := true, laidKinds := [.data, .data, .data, .listed, .data], laidTests := true, laidLooks := .later }
def BifTuplesUptoCardSaid : Prop := Claim7.holds Tryd.pinned (.plain (OpenSpec.upto bifTuplesSpec)) bifTuplesUptoCard

/-- THE SECOND FORM's CARD OF 'troupelaw08.BifSeqs'. -/
def bifSeqsUptoCard : Claim7 := { stood := { row := bifSeqsUptoRow, standIns := [], harness := (true, "82c3f7522d23ac9c1e6799b5a6aeaf00a2095cfa9271d97add969dd5740083d2"), looks := false }, kinds := [], alts := [], laidByText := true, laidKinds := [.data, .data, .data, .listed, .data], laidTests := true, laidLooks := .later }
def BifSeqsUptoCardSaid : Prop := Claim7.holds Tryd.pinned (.plain (OpenSpec.upto bifSeqsSpec)) bifSeqsUptoCard

/-- THE SECOND FORM's CARD OF 'troupelaw08.BifBits'. -/
def bifBitsUptoCard : Claim7 := { stood := { row := bifBitsUptoRow, standIns := [], harness := (true, "82c3f7522d23ac9c1e6799b5a6aeaf00a2095cfa9271d97add969dd5740083d2"), looks := false }, kinds := [], alts := [], laidByText := true, laidKinds := [.data, .data, .data, .listed, .data], laidTests := true, laidLooks := .later }
def BifBitsUptoCardSaid : Prop := Claim7.holds Tryd.pinned (.plain (OpenSpec.upto bifBitsSpec)) bifBitsUptoCard

/-- THE SECOND FORM's CARD OF 'troupelaw08.BifKinds'. -/
def bifKindsUptoCard : Claim7 := { stood := { row := bifKindsUptoRow, standIns := [], harness := (true, "82c3f7522d23ac9c1e6799b5a6aeaf00a2095cfa9271d97add969dd5740083d2"), looks := false }, kinds := [], alts := [], laidByText := true, laidKinds := [.data, .data, .data, .listed, .data], laidTests := true, laidLooks := .later }
def BifKindsUptoCardSaid : Prop := Claim7.holds Tryd.pinned (.plain (OpenSpec.upto bifKindsSpec)) bifKindsUptoCard
end Rows
end Go.Proofs.YtlgogflhjpcmlaaDoor
