/-
  wrap64: plain laws. No program in sight.
-/
import Derived.Test.YtlgogflhjpcmlaaDoorBifG
import Derived.Laws.Bits64
namespace Go.Proofs.YtlgogflhjpcmlaaDoor
open Go.RowKit
theorem wrapi (n : Int) : IntKind.i64.wrap n = wrap64 n := by
  unfold wrap64 IntKind.wrap
  simp [IntKind.bits, IntKind.signed]
  try omega
theorem w_mod (n : Int) : ∃ q, wrap64 n = n + 18446744073709551616 * q := ⟨-((n + 9223372036854775808) / 18446744073709551616), by unfold wrap64; omega⟩
theorem w_eq {x y q : Int} (h : x = y + 18446744073709551616 * q) : wrap64 x = wrap64 y := by subst h; unfold wrap64; omega
end Go.Proofs.YtlgogflhjpcmlaaDoor
