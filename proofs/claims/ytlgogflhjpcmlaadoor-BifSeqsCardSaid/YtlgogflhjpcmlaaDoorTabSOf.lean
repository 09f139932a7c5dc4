/-
  The table of spaces, out of what a row says of the laid variables.
-/
import Derived.Test.YtlgogflhjpcmlaaDoorBifN
import Derived.LaidSub
import Derived.MakeChecks
import Derived.Lib.LaidTab
namespace Go.Proofs.YtlgogflhjpcmlaaDoor
open Go.RowKit

theorem tabS_laid {W : World} {l : List (String × DataW Unit)} (h : laidMetH Tryd.prog l W)
    (hl : (l.filter fun x => x.1 == "strings.asciiSpace") = [("strings.asciiSpace", Lib.tabData .u8 Lib.asciiSpaceTab)]) : TabS (heapOf W) := by
  have h1 := h.filter (fun x => x.1 == "strings.asciiSpace")
  rw [hl, MakeChecks.laidMetH_plain _ _ _ (by rfl)] at h1
  exact tabS_of (Lib.tabIs_of_head (g := 0) (t := 79) (e := 5) (n := 256) (by kernel_rfl) (by kernel_rfl) Tryd.underlying79 Tryd.underlying5 (by kernel_rfl) (by kernel_rfl) h1)
#print axioms tabS_laid
end Go.Proofs.YtlgogflhjpcmlaaDoor
