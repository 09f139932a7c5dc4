/-
  No cell of these rows narrows 'for every input' (looked for: loops, veiled, ifaces, maps, wideKeys, modest, calm, conditions, laid).
  DERIVED. THE GIVEN ROWS OF THIS SEAT. 7 by the template 'for every input the law returns true; each argument reads behind the call as it read before'; 0 by the template 'total and deterministic' (their statements: YtfhjoidciaidlaaTotals.lean).
  GIVEN WITH THE SEED: the statements are not yours to turn. If you find one false, say at which input.
  Laid BY PROGRAM, IN A SANDBOX (cutbox-rows.mjs): the forced cells as the released guide's own fill.sh prints them over the translation bc38c4d44bfc6d70… (all of the seat's roots in one cut). By AI agents, Wed Nov 11 2026. No macro, syntax, notation, axiom, sorry.
-/
import Derived.Test.YtfhjoidciaidlaaChecked
import GoSem.Claim
import GoSem.ClaimJoined
import GoSem.ClaimMapViews
import Derived.JoinedTies
import Derived.KernelRfl
namespace Go.Proofs.Ytfhjoidciaidlaa
/- THE CELL 'sum', in the pinned program and in every row, IS THE sha256 OF THE DUMP (.gsa) THAT YtfhjoidciaidlaaProg.lean LOADS. Nothing in Lean hashes anything: it is a label: what it is worth is what the hold of that sum in a sandbox is worth. -/
noncomputable def Try.pinned : Pinned := { name := "ytfhjoidciaidlaa", sum := "bc38c4d44bfc6d701d292ff8bb4eb8a745a6265eeac52dd08c6a6cf89252e76b", checked := Try.checked }
namespace Rows
def none {H : Type} : Left H := { results := [], args := [] }

/-- 'troupelaw17.SupRights': WHATEVER THE INPUT: true; the input reads as it did. -/
def supRightsSpec : ChangeSpec := { name := "supRights", fn := fun _ => fun
  | [d] => { results := [.lit (.bool true)], args := [d] }
  | _ => none }
def supRightsRow : OpenClaim := { program := "ytfhjoidciaidlaa", sum := "bc38c4d44bfc6d701d292ff8bb4eb8a745a6265eeac52dd08c6a6cf89252e76b", func := "troupe/troupelaw17.SupRights", spec := "supRights", unfollowed := true, recurses := true, apart := false }
def SupRightsSaid : Prop := supRightsRow.holds Try.pinned (OpenSpec.ofChange supRightsSpec)

/-- ITS FALSE NEIGHBOUR: 'it returns false'. Refute it at one input. -/
def supRightsWrong : ChangeSpec := { name := "supRights", fn := fun _ => fun
  | [d] => { results := [.lit (.bool false)], args := [d] }
  | _ => none }
def SupRightsWrongFalsely : Prop := supRightsRow.holds Try.pinned (OpenSpec.ofChange supRightsWrong)

/-- 'troupelaw17.SupGives': WHATEVER THE INPUT: true; the input reads as it did. -/
def supGivesSpec : ChangeSpec := { name := "supGives", fn := fun _ => fun
  | [d1, d2, d3, d4] => { results := [.lit (.bool true)], args := [d1, d2, d3, d4] }
  | _ => none }
def supGivesRow : OpenClaim := { program := "ytfhjoidciaidlaa", sum := "bc38c4d44bfc6d701d292ff8bb4eb8a745a6265eeac52dd08c6a6cf89252e76b", func := "troupe/troupelaw17.SupGives", spec := "supGives", unfollowed := true, recurses := true, apart := false }
def SupGivesSaid : Prop := supGivesRow.holds Try.pinned (OpenSpec.ofChange supGivesSpec)

/-- ITS FALSE NEIGHBOUR: 'it returns false'. Refute it at one input. -/
def supGivesWrong : ChangeSpec := { name := "supGives", fn := fun _ => fun
  | [d1, d2, d3, d4] => { results := [.lit (.bool false)], args := [d1, d2, d3, d4] }
  | _ => none }
def SupGivesWrongFalsely : Prop := supGivesRow.holds Try.pinned (OpenSpec.ofChange supGivesWrong)

/-- 'troupelaw17.SupOnce': WHATEVER THE INPUT: true; the input reads as it did. -/
def supOnceSpec : ChangeSpec := { name := "supOnce", fn := fun _ => fun
  | [d1, d2, d3] => { results := [.lit (.bool true)], args := [d1, d2, d3] }
  | _ => none }
def supOnceRow : OpenClaim := { program := "ytfhjoidciaidlaa", sum := "bc38c4d44bfc6d701d292ff8bb4eb8a745a6265eeac52dd08c6a6cf89252e76b", func := "troupe/troupelaw17.SupOnce", spec := "supOnce", unfollowed := true, recurses := true, apart := false }
def SupOnceSaid : Prop := supOnceRow.holds Try.pinned (OpenSpec.ofChange supOnceSpec)

/-- ITS FALSE NEIGHBOUR: 'it returns false'. Refute it at one input. -/
def supOnceWrong : ChangeSpec := { name := "supOnce", fn := fun _ => fun
  | [d1, d2, d3] => { results := [.lit (.bool false)], args := [d1, d2, d3] }
  | _ => none }
def SupOnceWrongFalsely : Prop := supOnceRow.holds Try.pinned (OpenSpec.ofChange supOnceWrong)

/-- 'troupelaw17.SupTimes': WHATEVER THE INPUT: true; the input reads as it did. -/
def supTimesSpec : ChangeSpec := { name := "supTimes", fn := fun _ => fun
  | [d1, d2] => { results := [.lit (.bool true)], args := [d1, d2] }
  | _ => none }
def supTimesRow : OpenClaim := { program := "ytfhjoidciaidlaa", sum := "bc38c4d44bfc6d701d292ff8bb4eb8a745a6265eeac52dd08c6a6cf89252e76b", func := "troupe/troupelaw17.SupTimes", spec := "supTimes", unfollowed := true, recurses := true, apart := false }
def SupTimesSaid : Prop := supTimesRow.holds Try.pinned (OpenSpec.ofChange supTimesSpec)

/-- ITS FALSE NEIGHBOUR: 'it returns false'. Refute it at one input. -/
def supTimesWrong : ChangeSpec := { name := "supTimes", fn := fun _ => fun
  | [d1, d2] => { results := [.lit (.bool false)], args := [d1, d2] }
  | _ => none }
def SupTimesWrongFalsely : Prop := supTimesRow.holds Try.pinned (OpenSpec.ofChange supTimesWrong)

/-- 'troupelaw17.SupWords': WHATEVER THE INPUT: true; the input reads as it did. -/
def supWordsSpec : ChangeSpec := { name := "supWords", fn := fun _ => fun
  | [d1, d2, d3, d4] => { results := [.lit (.bool true)], args := [d1, d2, d3, d4] }
  | _ => none }
def supWordsRow : OpenClaim := { program := "ytfhjoidciaidlaa", sum := "bc38c4d44bfc6d701d292ff8bb4eb8a745a6265eeac52dd08c6a6cf89252e76b", func := "troupe/troupelaw17.SupWords", spec := "supWords", unfollowed := true, recurses := true, apart := false }
def SupWordsSaid : Prop := supWordsRow.holds Try.pinned (OpenSpec.ofChange supWordsSpec)

/-- ITS FALSE NEIGHBOUR: 'it returns false'. Refute it at one input. -/
def supWordsWrong : ChangeSpec := { name := "supWords", fn := fun _ => fun
  | [d1, d2, d3, d4] => { results := [.lit (.bool false)], args := [d1, d2, d3, d4] }
  | _ => none }
def SupWordsWrongFalsely : Prop := supWordsRow.holds Try.pinned (OpenSpec.ofChange supWordsWrong)

/-- 'troupelaw17.SupLeaves': WHATEVER THE INPUT: true; the input reads as it did. -/
def supLeavesSpec : ChangeSpec := { name := "supLeaves", fn := fun _ => fun
  | [d1, d2] => { results := [.lit (.bool true)], args := [d1, d2] }
  | _ => none }
def supLeavesRow : OpenClaim := { program := "ytfhjoidciaidlaa", sum := "bc38c4d44bfc6d701d292ff8bb4eb8a745a6265eeac52dd08c6a6cf89252e76b", func := "troupe/troupelaw17.SupLeaves", spec := "supLeaves", unfollowed := true, recurses := true, apart := false }
def SupLeavesSaid : Prop := supLeavesRow.holds Try.pinned (OpenSpec.ofChange supLeavesSpec)

/-- ITS FALSE NEIGHBOUR: 'it returns false'. Refute it at one input. -/
def supLeavesWrong : ChangeSpec := { name := "supLeaves", fn := fun _ => fun
  | [d1, d2] => { results := [.lit (.bool false)], args := [d1, d2] }
  | _ => none }
def SupLeavesWrongFalsely : Prop := supLeavesRow.holds Try.pinned (OpenSpec.ofChange supLeavesWrong)

/-- 'troupelaw17.SupPlays': WHATEVER THE INPUT: true; the input reads as it did. -/
def supPlaysSpec : ChangeSpec := { name := "supPlays", fn := fun _ => fun
  | [d1, d2] => { results := [.lit (.bool true)], args := [d1, d2] }
  | _ => none }
def supPlaysRow : OpenClaim := { program := "ytfhjoidciaidlaa", sum := "bc38c4d44bfc6d701d292ff8bb4eb8a745a6265eeac52dd08c6a6cf89252e76b", func := "troupe/troupelaw17.SupPlays", spec := "supPlays", unfollowed := true, recurses := true, apart := false }
def SupPlaysSaid : Prop := supPlaysRow.holds Try.pinned (OpenSpec.ofChange supPlaysSpec)

/-- ITS FALSE NEIGHBOUR: 'it returns false'. Refute it at one input. -/
def supPlaysWrong : ChangeSpec := { name := "supPlays", fn := fun _ => fun
  | [d1, d2] => { results := [.lit (.bool false)], args := [d1, d2] }
  | _ => none }
def SupPlaysWrongFalsely : Prop := supPlaysRow.holds Try.pinned (OpenSpec.ofChange supPlaysWrong)

/- THE SECOND FORM. 'bulk': how many values and letters a reading holds, each counted each time it is reached (what is shared counts as often as it is met; a slice's spare places count too). A statement '..UptoSaid' is the law's where the arguments, and the package variables that the reading takes, are together of bulk at most 1048576: NARROWER than '..Said'. Prove '..Said' where nothing that the law and all that it calls make is longer than what came in: it says more and counts as full. Else prove '..UptoSaid'. A law counts once. -/
mutual
def uptoBulk {H : Type} : DataW H → Nat
  | .lit (.string bytes) => bytes.length + 1
  | .lit _ => 1
  | .nil => 1
  | .ptr d => uptoBulk d + 1
  | .slice elems spare => uptoBulkAll elems + uptoBulkAll spare + 1
  | .agg parts => uptoBulkAll parts + 1
  | .iface _ d => uptoBulk d + 1
  | .map entries => uptoBulkEntries entries + 1
  | .held _ => 1
def uptoBulkAll {H : Type} : List (DataW H) → Nat
  | [] => 0
  | d :: r => uptoBulk d + uptoBulkAll r
def uptoBulkEntries {H : Type} : List (Lit × DataW H) → Nat
  | [] => 0
  | x :: r => uptoBulkEntry x + uptoBulkEntries r
def uptoBulkEntry {H : Type} : Lit × DataW H → Nat
  | (.string bytes, d) => bytes.length + uptoBulk d + 1
  | (_, d) => uptoBulk d + 1
 end
def uptoSmall : (H : Type) → List (DataW H) → Bool := fun _ ds => decide (uptoBulkAll ds ≤ 1048576)
def OpenSpec.upto (s : _root_.Go.ChangeSpec) : _root_.Go.OpenSpec := { _root_.Go.OpenSpec.ofChange s with cond := some uptoSmall }

/-- 'troupelaw17.SupRights', WHERE WHAT IT READS IS OF BULK AT MOST 1048576: true; the input reads as it did. -/
def supRightsUptoRow : OpenClaim := { program := "ytfhjoidciaidlaa", sum := "bc38c4d44bfc6d701d292ff8bb4eb8a745a6265eeac52dd08c6a6cf89252e76b", func := "troupe/troupelaw17.SupRights", spec := "supRights", unfollowed := true, recurses := true, apart := false, narrowed := true }
def SupRightsUptoSaid : Prop := supRightsUptoRow.holds Try.pinned (OpenSpec.upto supRightsSpec)

/-- 'troupelaw17.SupGives', WHERE WHAT IT READS IS OF BULK AT MOST 1048576: true; the input reads as it did. -/
def supGivesUptoRow : OpenClaim := { program := "ytfhjoidciaidlaa", sum := "bc38c4d44bfc6d701d292ff8bb4eb8a745a6265eeac52dd08c6a6cf89252e76b", func := "troupe/troupelaw17.SupGives", spec := "supGives", unfollowed := true, recurses := true, apart := false, narrowed := true }
def SupGivesUptoSaid : Prop := supGivesUptoRow.holds Try.pinned (OpenSpec.upto supGivesSpec)

/-- 'troupelaw17.SupOnce', WHERE WHAT IT READS IS OF BULK AT MOST 1048576: true; the input reads as it did. -/
def supOnceUptoRow : OpenClaim := { program := "ytfhjoidciaidlaa", sum := "bc38c4d44bfc6d701d292ff8bb4eb8a745a6265eeac52dd08c6a6cf89252e76b", func := "troupe/troupelaw17.SupOnce", spec := "supOnce", unfollowed := true, recurses := true, apart := false, narrowed := true }
def SupOnceUptoSaid : Prop := supOnceUptoRow.holds Try.pinned (OpenSpec.upto supOnceSpec)

/-- 'troupelaw17.SupTimes', WHERE WHAT IT READS IS OF BULK AT MOST 1048576: true; the input reads as it did. -/
def supTimesUptoRow : OpenClaim := { program := "ytfhjoidciaidlaa", sum := "bc38c4d44bfc6d701d292ff8bb4eb8a745a6265eeac52dd08c6a6cf89252e76b", func := "troupe/troupelaw17.SupTimes", spec := "supTimes", unfollowed := true, recurses := true, apart := false, narrowed := true }
def SupTimesUptoSaid : Prop := supTimesUptoRow.holds Try.pinned (OpenSpec.upto supTimesSpec)

/-- 'troupelaw17.SupWords', WHERE WHAT IT READS IS OF BULK AT MOST 1048576: true; the input reads as it did. -/
def supWordsUptoRow : OpenClaim := { program := "ytfhjoidciaidlaa", sum := "bc38c4d44bfc6d701d292ff8bb4eb8a745a6265eeac52dd08c6a6cf89252e76b", func := "troupe/troupelaw17.SupWords", spec := "supWords", unfollowed := true, recurses := true, apart := false, narrowed := true }
def SupWordsUptoSaid : Prop := supWordsUptoRow.holds Try.pinned (OpenSpec.upto supWordsSpec)

/-- 'troupelaw17.SupLeaves', WHERE WHAT IT READS IS OF BULK AT MOST 1048576: true; the input reads as it did. -/
def supLeavesUptoRow : OpenClaim := { program := "ytfhjoidciaidlaa", sum := "bc38c4d44bfc6d701d292ff8bb4eb8a745a6265eeac52dd08c6a6cf89252e76b", func := "troupe/troupelaw17.SupLeaves", spec := "supLeaves", unfollowed := true, recurses := true, apart := false, narrowed := true }
def SupLeavesUptoSaid : Prop := supLeavesUptoRow.holds Try.pinned (OpenSpec.upto supLeavesSpec)

/-- 'troupelaw17.SupPlays', WHERE WHAT IT READS IS OF BULK AT MOST 1048576: true; the input reads as it did. -/
def supPlaysUptoRow : OpenClaim := { program := "ytfhjoidciaidlaa", sum := "bc38c4d44bfc6d701d292ff8bb4eb8a745a6265eeac52dd08c6a6cf89252e76b", func := "troupe/troupelaw17.SupPlays", spec := "supPlays", unfollowed := true, recurses := true, apart := false, narrowed := true }
def SupPlaysUptoSaid : Prop := supPlaysUptoRow.holds Try.pinned (OpenSpec.upto supPlaysSpec)

end Rows
end Go.Proofs.Ytfhjoidciaidlaa
