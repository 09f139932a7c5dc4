/-
  No cell of these rows narrows 'for every input' (looked for: loops, veiled, ifaces, maps, wideKeys, modest, calm, conditions, laid).
  DERIVED. THE GIVEN ROWS OF THIS SEAT. 5 by the template 'for every input the law returns true; each argument reads behind the call as it read before'; 0 by the template 'total and deterministic' (their statements: YtmfjeplfpljogaaTotals.lean).
  GIVEN WITH THE SEED: the statements are not yours to turn. If you find one false, say at which input.
  Laid BY PROGRAM, IN A SANDBOX (cutbox-rows.mjs): the forced cells as the released guide's own fill.sh prints them over the translation 355342e780b84a0f… (all of the seat's roots in one cut). By AI agents, Wed Nov 11 2026. No macro, syntax, notation, axiom, sorry.
-/
import Derived.Test.YtmfjeplfpljogaaChecked
import GoSem.Claim
import GoSem.ClaimJoined
import GoSem.ClaimMapViews
import Derived.JoinedTies
import Derived.KernelRfl
namespace Go.Proofs.Ytmfjeplfpljogaa
/- THE CELL 'sum', in the pinned program and in every row, IS THE sha256 OF THE DUMP (.gsa) THAT YtmfjeplfpljogaaProg.lean LOADS. Nothing in Lean hashes anything: it is a label: what it is worth is what the hold of that sum in a sandbox is worth. -/
noncomputable def Try.pinned : Pinned := { name := "ytmfjeplfpljogaa", sum := "355342e780b84a0f8cf12797b0dda9555c422196c662641ca157b4d0f8a109b8", checked := Try.checked }
namespace Rows
def none {H : Type} : Left H := { results := [], args := [] }

/-- 'troupelaw12.BoxOrder': WHATEVER THE INPUT: true; the input reads as it did. -/
def boxOrderSpec : ChangeSpec := { name := "boxOrder", fn := fun _ => fun
  | [d1, d2] => { results := [.lit (.bool true)], args := [d1, d2] }
  | _ => none }
def boxOrderRow : OpenClaim := { program := "ytmfjeplfpljogaa", sum := "355342e780b84a0f8cf12797b0dda9555c422196c662641ca157b4d0f8a109b8", func := "troupe/troupelaw12.BoxOrder", spec := "boxOrder", apart := false }
def BoxOrderSaid : Prop := boxOrderRow.holds Try.pinned (OpenSpec.ofChange boxOrderSpec)

/-- ITS FALSE NEIGHBOUR: 'it returns false'. Refute it at one input. -/
def boxOrderWrong : ChangeSpec := { name := "boxOrder", fn := fun _ => fun
  | [d1, d2] => { results := [.lit (.bool false)], args := [d1, d2] }
  | _ => none }
def BoxOrderWrongFalsely : Prop := boxOrderRow.holds Try.pinned (OpenSpec.ofChange boxOrderWrong)

/-- 'troupelaw12.BoxLong': WHATEVER THE INPUT: true; the input reads as it did. -/
def boxLongSpec : ChangeSpec := { name := "boxLong", fn := fun _ => fun
  | [d1, d2] => { results := [.lit (.bool true)], args := [d1, d2] }
  | _ => none }
def boxLongRow : OpenClaim := { program := "ytmfjeplfpljogaa", sum := "355342e780b84a0f8cf12797b0dda9555c422196c662641ca157b4d0f8a109b8", func := "troupe/troupelaw12.BoxLong", spec := "boxLong", apart := false }
def BoxLongSaid : Prop := boxLongRow.holds Try.pinned (OpenSpec.ofChange boxLongSpec)

/-- ITS FALSE NEIGHBOUR: 'it returns false'. Refute it at one input. -/
def boxLongWrong : ChangeSpec := { name := "boxLong", fn := fun _ => fun
  | [d1, d2] => { results := [.lit (.bool false)], args := [d1, d2] }
  | _ => none }
def BoxLongWrongFalsely : Prop := boxLongRow.holds Try.pinned (OpenSpec.ofChange boxLongWrong)

/-- 'troupelaw12.BoxPasses': WHATEVER THE INPUT: true; the input reads as it did. -/
def boxPassesSpec : ChangeSpec := { name := "boxPasses", fn := fun _ => fun
  | [d1, d2] => { results := [.lit (.bool true)], args := [d1, d2] }
  | _ => none }
def boxPassesRow : OpenClaim := { program := "ytmfjeplfpljogaa", sum := "355342e780b84a0f8cf12797b0dda9555c422196c662641ca157b4d0f8a109b8", func := "troupe/troupelaw12.BoxPasses", spec := "boxPasses", apart := false }
def BoxPassesSaid : Prop := boxPassesRow.holds Try.pinned (OpenSpec.ofChange boxPassesSpec)

/-- ITS FALSE NEIGHBOUR: 'it returns false'. Refute it at one input. -/
def boxPassesWrong : ChangeSpec := { name := "boxPasses", fn := fun _ => fun
  | [d1, d2] => { results := [.lit (.bool false)], args := [d1, d2] }
  | _ => none }
def BoxPassesWrongFalsely : Prop := boxPassesRow.holds Try.pinned (OpenSpec.ofChange boxPassesWrong)

/-- 'troupelaw12.BoxOwn': WHATEVER THE INPUT: true; the input reads as it did. -/
def boxOwnSpec : ChangeSpec := { name := "boxOwn", fn := fun _ => fun
  | [d] => { results := [.lit (.bool true)], args := [d] }
  | _ => none }
def boxOwnRow : OpenClaim := { program := "ytmfjeplfpljogaa", sum := "355342e780b84a0f8cf12797b0dda9555c422196c662641ca157b4d0f8a109b8", func := "troupe/troupelaw12.BoxOwn", spec := "boxOwn", apart := false }
def BoxOwnSaid : Prop := boxOwnRow.holds Try.pinned (OpenSpec.ofChange boxOwnSpec)

/-- ITS FALSE NEIGHBOUR: 'it returns false'. Refute it at one input. -/
def boxOwnWrong : ChangeSpec := { name := "boxOwn", fn := fun _ => fun
  | [d] => { results := [.lit (.bool false)], args := [d] }
  | _ => none }
def BoxOwnWrongFalsely : Prop := boxOwnRow.holds Try.pinned (OpenSpec.ofChange boxOwnWrong)

/-- 'troupelaw12.BoxPlays': WHATEVER THE INPUT: true; the input reads as it did. -/
def boxPlaysSpec : ChangeSpec := { name := "boxPlays", fn := fun _ => fun
  | [d] => { results := [.lit (.bool true)], args := [d] }
  | _ => none }
def boxPlaysRow : OpenClaim := { program := "ytmfjeplfpljogaa", sum := "355342e780b84a0f8cf12797b0dda9555c422196c662641ca157b4d0f8a109b8", func := "troupe/troupelaw12.BoxPlays", spec := "boxPlays", apart := false }
def BoxPlaysSaid : Prop := boxPlaysRow.holds Try.pinned (OpenSpec.ofChange boxPlaysSpec)

/-- ITS FALSE NEIGHBOUR: 'it returns false'. Refute it at one input. -/
def boxPlaysWrong : ChangeSpec := { name := "boxPlays", fn := fun _ => fun
  | [d] => { results := [.lit (.bool false)], args := [d] }
  | _ => none }
def BoxPlaysWrongFalsely : Prop := boxPlaysRow.holds Try.pinned (OpenSpec.ofChange boxPlaysWrong)

/- THE SECOND FORM. 'bulk': how many values and letters a reading holds, each counted each time it is reached (what is shared counts as often as it is met; a slice's spare places count too). A statement '..UptoSaid' is the law's where the arguments, and the package variables that the reading takes, are together of bulk at most 1048576: NARROWER than '..Said'. Prove '..Said' where nothing that the law and all that it calls make is longer than what came in: it says more and counts as full. Else prove '..UptoSaid'. A law counts once. -/
mutual
def uptoBulk {H : Type} : DataW H → Nat
  | .lit (.string bytes) => bytes.length + 1
  | .lit _ => 1
  | .nil => 1
  | .ptr d => uptoBulk d + 1
  | .slice elems spare => uptoBulkAll elems + uptoBulkAll spare + 1
  | .agg parts => uptoBulkAll parts + 1
  | .iface _ d => uptoBulk d + 1
  | .map entries => uptoBulkEntries entries + 1
  | .held _ => 1
def uptoBulkAll {H : Type} : List (DataW H) → Nat
  | [] => 0
  | d :: r => uptoBulk d + uptoBulkAll r
def uptoBulkEntries {H : Type} : List (Lit × DataW H) → Nat
  | [] => 0
  | x :: r => uptoBulkEntry x + uptoBulkEntries r
def uptoBulkEntry {H : Type} : Lit × DataW H → Nat
  | (.string bytes, d) => bytes.length + uptoBulk d + 1
  | (_, d) => uptoBulk d + 1
 end
def uptoSmall : (H : Type) → List (DataW H) → Bool := fun _ ds => decide (uptoBulkAll ds ≤ 1048576)
def OpenSpec.upto (s : _root_.Go.ChangeSpec) : _root_.Go.OpenSpec := { _root_.Go.OpenSpec.ofChange s with cond := some uptoSmall }

/-- 'troupelaw12.BoxOrder', WHERE WHAT IT READS IS OF BULK AT MOST 1048576: true; the input reads as it did. -/
def boxOrderUptoRow : OpenClaim := { program := "ytmfjeplfpljogaa", sum := "355342e780b84a0f8cf12797b0dda9555c422196c662641ca157b4d0f8a109b8", func := "troupe/troupelaw12.BoxOrder", spec := "boxOrder", apart := false, narrowed := true }
def BoxOrderUptoSaid : Prop := boxOrderUptoRow.holds Try.pinned (OpenSpec.upto boxOrderSpec)

/-- 'troupelaw12.BoxLong', WHERE WHAT IT READS IS OF BULK AT MOST 1048576: true; the input reads as it did. -/
def boxLongUptoRow : OpenClaim := { program := "ytmfjeplfpljogaa", sum := "355342e780b84a0f8cf12797b0dda9555c422196c662641ca157b4d0f8a109b8", func := "troupe/troupelaw12.BoxLong", spec := "boxLong", apart := false, narrowed := true }
def BoxLongUptoSaid : Prop := boxLongUptoRow.holds Try.pinned (OpenSpec.upto boxLongSpec)

/-- 'troupelaw12.BoxPasses', WHERE WHAT IT READS IS OF BULK AT MOST 1048576: true; the input reads as it did. -/
def boxPassesUptoRow : OpenClaim := { program := "ytmfjeplfpljogaa", sum := "355342e780b84a0f8cf12797b0dda9555c422196c662641ca157b4d0f8a109b8", func := "troupe/troupelaw12.BoxPasses", spec := "boxPasses", apart := false, narrowed := true }
def BoxPassesUptoSaid : Prop := boxPassesUptoRow.holds Try.pinned (OpenSpec.upto boxPassesSpec)

/-- 'troupelaw12.BoxOwn', WHERE WHAT IT READS IS OF BULK AT MOST 1048576: true; the input reads as it did. -/
def boxOwnUptoRow : OpenClaim := { program := "ytmfjeplfpljogaa", sum := "355342e780b84a0f8cf12797b0dda9555c422196c662641ca157b4d0f8a109b8", func := "troupe/troupelaw12.BoxOwn", spec := "boxOwn", apart := false, narrowed := true }
def BoxOwnUptoSaid : Prop := boxOwnUptoRow.holds Try.pinned (OpenSpec.upto boxOwnSpec)

/-- 'troupelaw12.BoxPlays', WHERE WHAT IT READS IS OF BULK AT MOST 1048576: true; the input reads as it did. -/
def boxPlaysUptoRow : OpenClaim := { program := "ytmfjeplfpljogaa", sum := "355342e780b84a0f8cf12797b0dda9555c422196c662641ca157b4d0f8a109b8", func := "troupe/troupelaw12.BoxPlays", spec := "boxPlays", apart := false, narrowed := true }
def BoxPlaysUptoSaid : Prop := boxPlaysUptoRow.holds Try.pinned (OpenSpec.upto boxPlaysSpec)

end Rows
end Go.Proofs.Ytmfjeplfpljogaa
