/-
  The table of powers, out of what a row says of the laid variables.
-/
import Derived.Test.YteaabbghnfideaaDoorQuo
import Derived.LaidSub
import Derived.MakeChecks
import Derived.Lib.LaidTab
namespace Go.Proofs.YteaabbghnfideaaDoor
open Go.RowKit

theorem tab_laid {W : World} {l : List (String × DataW Unit)} (h : laidMetH Tryd.prog l W)
    (hl : (l.filter fun x => x.1 == "internal/strconv.uint64pow10") = [("internal/strconv.uint64pow10", Lib.tabData .u64 Lib.pow10Tab)]) : Tab (heapOf W) := by
  have h1 := h.filter (fun x => x.1 == "internal/strconv.uint64pow10")
  rw [hl, MakeChecks.laidMetH_plain _ _ _ (by rfl)] at h1
  exact tab_of (Lib.tabIs_of_head (g := 0) (t := 132) (e := 124) (n := 20) (by kernel_rfl) (by kernel_rfl) Tryd.underlying132 Tryd.underlying124 (by kernel_rfl) (by kernel_rfl) h1)
#print axioms tab_laid
end Go.Proofs.YteaabbghnfideaaDoor
