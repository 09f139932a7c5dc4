/-
  NARROWER THAN 'FOR EVERY INPUT', by the rows' own cells (each row's printed sentence says how): VetModules: loops, laid · VetTurns: loops, laid · VetNests: laid · VetOperands: laid · VetLabels: laid · VetRows: laid · VetTries: loops, laid · VetDead: loops, laid.
  DERIVED. THE GIVEN ROWS OF THIS SEAT. 8 by the template 'for every input the law returns true; each argument reads behind the call as it read before'; 0 by the template 'total and deterministic' (their statements: YtohdhckafebmhaaDoorTotals.lean).
  GIVEN WITH THE SEED: the statements are not yours to turn. If you find one false, say at which input.
  Laid BY PROGRAM, IN A SANDBOX (cutbox-rows.mjs): the forced cells as the released guide's own fill.sh prints them over the translation a5d242bbbb4db367… (all of the seat's roots in one cut). By AI agents, Wed Nov 11 2026. No macro, syntax, notation, axiom, sorry.
-/
import Derived.Test.YtohdhckafebmhaaDoorChecked
import GoSem.Claim
import GoSem.ClaimJoined
import GoSem.ClaimMapViews
import Derived.JoinedTies
import Derived.KernelRfl
namespace Go.Proofs.YtohdhckafebmhaaDoor
/- THE CELL 'sum', in the pinned program and in every row, IS THE sha256 OF THE DUMP (.gsa) THAT YtohdhckafebmhaaDoorProg.lean LOADS. Nothing in Lean hashes anything: it is a label: what it is worth is what the hold of that sum in a sandbox is worth. -/
noncomputable def Tryd.pinned : Pinned := { name := "ytohdhckafebmhaadoor", sum := "a5d242bbbb4db367757805e18779b695cb7f04bfe81b61734965a6ec861ee39a", checked := Tryd.checked }
namespace Rows
def none {H : Type} : Left H := { results := [], args := [] }

/- WHAT THE LISTED PACKAGE-LEVEL VARIABLES READ AS WHEN THE CALL BEGINS. Each datum BY PROGRAM (the guide's laid-datum.mjs) off the statement by which the dump's own 'gosem.cut.vars' lays the variable. In a bare row this is a premise. The card (YtohdhckafebmhaaDoorCards.lean) ties it to the program's text. -/
def laid_unicode_White_Space {H : Type} : DataW H := .ptr (.agg [.slice [.agg [.lit (.int .u16 9), .lit (.int .u16 13), .lit (.int .u16 1)], .agg [.lit (.int .u16 32), .lit (.int .u16 133), .lit (.int .u16 101)], .agg [.lit (.int .u16 160), .lit (.int .u16 5760), .lit (.int .u16 5600)], .agg [.lit (.int .u16 8192), .lit (.int .u16 8202), .lit (.int .u16 1)], .agg [.lit (.int .u16 8232), .lit (.int .u16 8233), .lit (.int .u16 1)], .agg [.lit (.int .u16 8239), .lit (.int .u16 8287), .lit (.int .u16 48)], .agg [.lit (.int .u16 12288), .lit (.int .u16 12288), .lit (.int .u16 1)]] [], .nil, .lit (.int .i64 2)])
def laid_strings_asciiSpace {H : Type} : DataW H := .agg [.lit (.int .u8 0), .lit (.int .u8 0), .lit (.int .u8 0), .lit (.int .u8 0), .lit (.int .u8 0), .lit (.int .u8 0), .lit (.int .u8 0), .lit (.int .u8 0), .lit (.int .u8 0), .lit (.int .u8 1), .lit (.int .u8 1), .lit (.int .u8 1), .lit (.int .u8 1), .lit (.int .u8 1), .lit (.int .u8 0), .lit (.int .u8 0), .lit (.int .u8 0), .lit (.int .u8 0), .lit (.int .u8 0), .lit (.int .u8 0), .lit (.int .u8 0), .lit (.int .u8 0), .lit (.int .u8 0), .lit (.int .u8 0), .lit (.int .u8 0), .lit (.int .u8 0), .lit (.int .u8 0), .lit (.int .u8 0), .lit (.int .u8 0), .lit (.int .u8 0), .lit (.int .u8 0), .lit (.int .u8 0), .lit (.int .u8 1), .lit (.int .u8 0), .lit (.int .u8 0), .lit (.int .u8 0), .lit (.int .u8 0), .lit (.int .u8 0), .lit (.int .u8 0), .lit (.int .u8 0), .lit (.int .u8 0), .lit (.int .u8 0), .lit (.int .u8 0), .lit (.int .u8 0), .lit (.int .u8 0), .lit (.int .u8 0), .lit (.int .u8 0), .lit (.int .u8 0), .lit (.int .u8 0), .lit (.int .u8 0), .lit (.int .u8 0), .lit (.int .u8 0), .lit (.int .u8 0), .lit (.int .u8 0), .lit (.int .u8 0), .lit (.int .u8 0), .lit (.int .u8 0), .lit (.int .u8 0), .lit (.int .u8 0), .lit (.int .u8 0), .lit (.int .u8 0), .lit (.int .u8 0), .lit (.int .u8 0), .lit (.int .u8 0), .lit (.int .u8 0), .lit (.int .u8 0), .lit (.int .u8 0), .lit (.int .u8 0), .lit (.int .u8 0), .lit (.int .u8 0), .lit (.int .u8 0), .lit (.int .u8 0), .lit (.int .u8 0), .lit (.int .u8 0), .lit (.int .u8 0), .lit (.int .u8 0), .lit (.int .u8 0), .lit (.int .u8 0), .lit (.int .u8 0), .lit (.int .u8 0), .lit (.int .u8 0), .lit (.int .u8 0), .lit (.int .u8 0), .lit (.int .u8 0), .lit (.int .u8 0), .lit (.int .u8 0), .lit (.int .u8 0), .lit (.int .u8 0), .lit (.int .u8 0), .lit (.int .u8 0), .lit (.int .u8 0), .lit (.int .u8 0), .lit (.int .u8 0), .lit (.int .u8 0), .lit (.int .u8 0), .lit (.int .u8 0), .lit (.int .u8 0), .lit (.int .u8 0), .lit (.int .u8 0), .lit (.int .u8 0), .lit (.int .u8 0), .lit (.int .u8 0), .lit (.int .u8 0), .lit (.int .u8 0), .lit (.int .u8 0), .lit (.int .u8 0), .lit (.int .u8 0), .lit (.int .u8 0), .lit (.int .u8 0), .lit (.int .u8 0), .lit (.int .u8 0), .lit (.int .u8 0), .lit (.int .u8 0), .lit (.int .u8 0), .lit (.int .u8 0), .lit (.int .u8 0), .lit (.int .u8 0), .lit (.int .u8 0), .lit (.int .u8 0), .lit (.int .u8 0), .lit (.int .u8 0), .lit (.int .u8 0), .lit (.int .u8 0), .lit (.int .u8 0), .lit (.int .u8 0), .lit (.int .u8 0), .lit (.int .u8 0), .lit (.int .u8 0), .lit (.int .u8 0), .lit (.int .u8 0), .lit (.int .u8 0), .lit (.int .u8 0), .lit (.int .u8 0), .lit (.int .u8 0), .lit (.int .u8 0), .lit (.int .u8 0), .lit (.int .u8 0), .lit (.int .u8 0), .lit (.int .u8 0), .lit (.int .u8 0), .lit (.int .u8 0), .lit (.int .u8 0), .lit (.int .u8 0), .lit (.int .u8 0), .lit (.int .u8 0), .lit (.int .u8 0), .lit (.int .u8 0), .lit (.int .u8 0), .lit (.int .u8 0), .lit (.int .u8 0), .lit (.int .u8 0), .lit (.int .u8 0), .lit (.int .u8 0), .lit (.int .u8 0), .lit (.int .u8 0), .lit (.int .u8 0), .lit (.int .u8 0), .lit (.int .u8 0), .lit (.int .u8 0), .lit (.int .u8 0), .lit (.int .u8 0), .lit (.int .u8 0), .lit (.int .u8 0), .lit (.int .u8 0), .lit (.int .u8 0), .lit (.int .u8 0), .lit (.int .u8 0), .lit (.int .u8 0), .lit (.int .u8 0), .lit (.int .u8 0), .lit (.int .u8 0), .lit (.int .u8 0), .lit (.int .u8 0), .lit (.int .u8 0), .lit (.int .u8 0), .lit (.int .u8 0), .lit (.int .u8 0), .lit (.int .u8 0), .lit (.int .u8 0), .lit (.int .u8 0), .lit (.int .u8 0), .lit (.int .u8 0), .lit (.int .u8 0), .lit (.int .u8 0), .lit (.int .u8 0), .lit (.int .u8 0), .lit (.int .u8 0), .lit (.int .u8 0), .lit (.int .u8 0), .lit (.int .u8 0), .lit (.int .u8 0), .lit (.int .u8 0), .lit (.int .u8 0), .lit (.int .u8 0), .lit (.int .u8 0), .lit (.int .u8 0), .lit (.int .u8 0), .lit (.int .u8 0), .lit (.int .u8 0), .lit (.int .u8 0), .lit (.int .u8 0), .lit (.int .u8 0), .lit (.int .u8 0), .lit (.int .u8 0), .lit (.int .u8 0), .lit (.int .u8 0), .lit (.int .u8 0), .lit (.int .u8 0), .lit (.int .u8 0), .lit (.int .u8 0), .lit (.int .u8 0), .lit (.int .u8 0), .lit (.int .u8 0), .lit (.int .u8 0), .lit (.int .u8 0), .lit (.int .u8 0), .lit (.int .u8 0), .lit (.int .u8 0), .lit (.int .u8 0), .lit (.int .u8 0), .lit (.int .u8 0), .lit (.int .u8 0), .lit (.int .u8 0), .lit (.int .u8 0), .lit (.int .u8 0), .lit (.int .u8 0), .lit (.int .u8 0), .lit (.int .u8 0), .lit (.int .u8 0), .lit (.int .u8 0), .lit (.int .u8 0), .lit (.int .u8 0), .lit (.int .u8 0), .lit (.int .u8 0), .lit (.int .u8 0), .lit (.int .u8 0), .lit (.int .u8 0), .lit (.int .u8 0), .lit (.int .u8 0), .lit (.int .u8 0), .lit (.int .u8 0), .lit (.int .u8 0), .lit (.int .u8 0), .lit (.int .u8 0), .lit (.int .u8 0), .lit (.int .u8 0), .lit (.int .u8 0), .lit (.int .u8 0), .lit (.int .u8 0), .lit (.int .u8 0), .lit (.int .u8 0), .lit (.int .u8 0), .lit (.int .u8 0), .lit (.int .u8 0), .lit (.int .u8 0), .lit (.int .u8 0)]
def laid_errors_errorType {H : Type} : DataW H := .iface "internal/reflectlite.rtype" (.agg [.ptr (.lit (.string [101, 114, 114, 111, 114]))])

/-- 'troupelaw10.VetModules': WHATEVER THE INPUT: true; the input reads as it did. -/
def vetModulesSpec : ChangeSpec := { name := "vetModules", fn := fun _ => fun
  | [d] => { results := [.lit (.bool true)], args := [d] }
  | _ => none }
def vetModulesRow : OpenClaim := { program := "ytohdhckafebmhaadoor", sum := "a5d242bbbb4db367757805e18779b695cb7f04bfe81b61734965a6ec861ee39a", func := "troupe/troupelaw10.VetModules", spec := "vetModules", unfollowed := true, recurses := true, named := ["strings.asciiSpace", "unicode.White_Space"], loops := true, apart := false, laid := [("unicode.White_Space", laid_unicode_White_Space), ("strings.asciiSpace", laid_strings_asciiSpace)] }
def VetModulesSaid : Prop := vetModulesRow.holds Tryd.pinned (OpenSpec.ofChange vetModulesSpec)

/-- ITS FALSE NEIGHBOUR: 'it returns false'. Refute it at one input. -/
def vetModulesWrong : ChangeSpec := { name := "vetModules", fn := fun _ => fun
  | [d] => { results := [.lit (.bool false)], args := [d] }
  | _ => none }
def VetModulesWrongFalsely : Prop := vetModulesRow.holds Tryd.pinned (OpenSpec.ofChange vetModulesWrong)

/-- 'troupelaw10.VetTurns': WHATEVER THE INPUT: true; the input reads as it did. -/
def vetTurnsSpec : ChangeSpec := { name := "vetTurns", fn := fun _ => fun
  | [d1, d2, d3, d4] => { results := [.lit (.bool true)], args := [d1, d2, d3, d4] }
  | _ => none }
def vetTurnsRow : OpenClaim := { program := "ytohdhckafebmhaadoor", sum := "a5d242bbbb4db367757805e18779b695cb7f04bfe81b61734965a6ec861ee39a", func := "troupe/troupelaw10.VetTurns", spec := "vetTurns", unfollowed := true, recurses := true, named := ["strings.asciiSpace", "unicode.White_Space"], loops := true, apart := false, laid := [("unicode.White_Space", laid_unicode_White_Space), ("strings.asciiSpace", laid_strings_asciiSpace)] }
def VetTurnsSaid : Prop := vetTurnsRow.holds Tryd.pinned (OpenSpec.ofChange vetTurnsSpec)

/-- ITS FALSE NEIGHBOUR: 'it returns false'. Refute it at one input. -/
def vetTurnsWrong : ChangeSpec := { name := "vetTurns", fn := fun _ => fun
  | [d1, d2, d3, d4] => { results := [.lit (.bool false)], args := [d1, d2, d3, d4] }
  | _ => none }
def VetTurnsWrongFalsely : Prop := vetTurnsRow.holds Tryd.pinned (OpenSpec.ofChange vetTurnsWrong)

/-- 'troupelaw10.VetNests': WHATEVER THE INPUT: true; the input reads as it did. -/
def vetNestsSpec : ChangeSpec := { name := "vetNests", fn := fun _ => fun
  | [d1, d2] => { results := [.lit (.bool true)], args := [d1, d2] }
  | _ => none }
def vetNestsRow : OpenClaim := { program := "ytohdhckafebmhaadoor", sum := "a5d242bbbb4db367757805e18779b695cb7f04bfe81b61734965a6ec861ee39a", func := "troupe/troupelaw10.VetNests", spec := "vetNests", unfollowed := true, recurses := true, named := ["strings.asciiSpace", "unicode.White_Space"], apart := false, laid := [("unicode.White_Space", laid_unicode_White_Space), ("strings.asciiSpace", laid_strings_asciiSpace)] }
def VetNestsSaid : Prop := vetNestsRow.holds Tryd.pinned (OpenSpec.ofChange vetNestsSpec)

/-- ITS FALSE NEIGHBOUR: 'it returns false'. Refute it at one input. -/
def vetNestsWrong : ChangeSpec := { name := "vetNests", fn := fun _ => fun
  | [d1, d2] => { results := [.lit (.bool false)], args := [d1, d2] }
  | _ => none }
def VetNestsWrongFalsely : Prop := vetNestsRow.holds Tryd.pinned (OpenSpec.ofChange vetNestsWrong)

/-- 'troupelaw10.VetOperands': WHATEVER THE INPUT: true; the input reads as it did. -/
def vetOperandsSpec : ChangeSpec := { name := "vetOperands", fn := fun _ => fun
  | [d1, d2, d3, d4] => { results := [.lit (.bool true)], args := [d1, d2, d3, d4] }
  | _ => none }
def vetOperandsRow : OpenClaim := { program := "ytohdhckafebmhaadoor", sum := "a5d242bbbb4db367757805e18779b695cb7f04bfe81b61734965a6ec861ee39a", func := "troupe/troupelaw10.VetOperands", spec := "vetOperands", unfollowed := true, recurses := true, named := ["strings.asciiSpace", "unicode.White_Space"], apart := false, laid := [("unicode.White_Space", laid_unicode_White_Space), ("strings.asciiSpace", laid_strings_asciiSpace)] }
def VetOperandsSaid : Prop := vetOperandsRow.holds Tryd.pinned (OpenSpec.ofChange vetOperandsSpec)

/-- ITS FALSE NEIGHBOUR: 'it returns false'. Refute it at one input. -/
def vetOperandsWrong : ChangeSpec := { name := "vetOperands", fn := fun _ => fun
  | [d1, d2, d3, d4] => { results := [.lit (.bool false)], args := [d1, d2, d3, d4] }
  | _ => none }
def VetOperandsWrongFalsely : Prop := vetOperandsRow.holds Tryd.pinned (OpenSpec.ofChange vetOperandsWrong)

/-- 'troupelaw10.VetLabels': WHATEVER THE INPUT: true; the input reads as it did. -/
def vetLabelsSpec : ChangeSpec := { name := "vetLabels", fn := fun _ => fun
  | [d1, d2, d3] => { results := [.lit (.bool true)], args := [d1, d2, d3] }
  | _ => none }
def vetLabelsRow : OpenClaim := { program := "ytohdhckafebmhaadoor", sum := "a5d242bbbb4db367757805e18779b695cb7f04bfe81b61734965a6ec861ee39a", func := "troupe/troupelaw10.VetLabels", spec := "vetLabels", unfollowed := true, recurses := true, named := ["strings.asciiSpace", "unicode.White_Space"], apart := false, laid := [("unicode.White_Space", laid_unicode_White_Space), ("strings.asciiSpace", laid_strings_asciiSpace)] }
def VetLabelsSaid : Prop := vetLabelsRow.holds Tryd.pinned (OpenSpec.ofChange vetLabelsSpec)

/-- ITS FALSE NEIGHBOUR: 'it returns false'. Refute it at one input. -/
def vetLabelsWrong : ChangeSpec := { name := "vetLabels", fn := fun _ => fun
  | [d1, d2, d3] => { results := [.lit (.bool false)], args := [d1, d2, d3] }
  | _ => none }
def VetLabelsWrongFalsely : Prop := vetLabelsRow.holds Tryd.pinned (OpenSpec.ofChange vetLabelsWrong)

/-- 'troupelaw10.VetRows': WHATEVER THE INPUT: true; the input reads as it did. -/
def vetRowsSpec : ChangeSpec := { name := "vetRows", fn := fun _ => fun
  | [d1, d2, d3] => { results := [.lit (.bool true)], args := [d1, d2, d3] }
  | _ => none }
def vetRowsRow : OpenClaim := { program := "ytohdhckafebmhaadoor", sum := "a5d242bbbb4db367757805e18779b695cb7f04bfe81b61734965a6ec861ee39a", func := "troupe/troupelaw10.VetRows", spec := "vetRows", unfollowed := true, recurses := true, named := ["strings.asciiSpace", "unicode.White_Space"], apart := false, laid := [("unicode.White_Space", laid_unicode_White_Space), ("strings.asciiSpace", laid_strings_asciiSpace)] }
def VetRowsSaid : Prop := vetRowsRow.holds Tryd.pinned (OpenSpec.ofChange vetRowsSpec)

/-- ITS FALSE NEIGHBOUR: 'it returns false'. Refute it at one input. -/
def vetRowsWrong : ChangeSpec := { name := "vetRows", fn := fun _ => fun
  | [d1, d2, d3] => { results := [.lit (.bool false)], args := [d1, d2, d3] }
  | _ => none }
def VetRowsWrongFalsely : Prop := vetRowsRow.holds Tryd.pinned (OpenSpec.ofChange vetRowsWrong)

/-- 'troupelaw10.VetTries': WHATEVER THE INPUT: true; the input reads as it did. -/
def vetTriesSpec : ChangeSpec := { name := "vetTries", fn := fun _ => fun
  | [d1, d2] => { results := [.lit (.bool true)], args := [d1, d2] }
  | _ => none }
def vetTriesRow : OpenClaim := { program := "ytohdhckafebmhaadoor", sum := "a5d242bbbb4db367757805e18779b695cb7f04bfe81b61734965a6ec861ee39a", func := "troupe/troupelaw10.VetTries", spec := "vetTries", inPlace := ["internal/reflectlite.ValueOf", "(internal/reflectlite.Value).Type", "(internal/reflectlite.Value).IsNil", "internal/reflectlite.TypeOf", "(internal/reflectlite.Value).Elem", "(internal/reflectlite.Value).Set"], unfollowed := true, recurses := true, named := ["strings.asciiSpace", "unicode.White_Space", "errors.errorType"], loops := true, apart := false, laid := [("errors.errorType", laid_errors_errorType), ("unicode.White_Space", laid_unicode_White_Space), ("strings.asciiSpace", laid_strings_asciiSpace)] }
def VetTriesSaid : Prop := vetTriesRow.holds Tryd.pinned (OpenSpec.ofChange vetTriesSpec)

/-- ITS FALSE NEIGHBOUR: 'it returns false'. Refute it at one input. -/
def vetTriesWrong : ChangeSpec := { name := "vetTries", fn := fun _ => fun
  | [d1, d2] => { results := [.lit (.bool false)], args := [d1, d2] }
  | _ => none }
def VetTriesWrongFalsely : Prop := vetTriesRow.holds Tryd.pinned (OpenSpec.ofChange vetTriesWrong)

/-- 'troupelaw10.VetDead': WHATEVER THE INPUT: true; the input reads as it did. -/
def vetDeadSpec : ChangeSpec := { name := "vetDead", fn := fun _ => fun
  | [d1, d2, d3] => { results := [.lit (.bool true)], args := [d1, d2, d3] }
  | _ => none }
def vetDeadRow : OpenClaim := { program := "ytohdhckafebmhaadoor", sum := "a5d242bbbb4db367757805e18779b695cb7f04bfe81b61734965a6ec861ee39a", func := "troupe/troupelaw10.VetDead", spec := "vetDead", inPlace := ["internal/reflectlite.ValueOf", "(internal/reflectlite.Value).Type", "(internal/reflectlite.Value).IsNil", "internal/reflectlite.TypeOf", "(internal/reflectlite.Value).Elem", "(internal/reflectlite.Value).Set"], unfollowed := true, recurses := true, named := ["strings.asciiSpace", "unicode.White_Space", "errors.errorType"], loops := true, apart := false, laid := [("errors.errorType", laid_errors_errorType), ("unicode.White_Space", laid_unicode_White_Space), ("strings.asciiSpace", laid_strings_asciiSpace)] }
def VetDeadSaid : Prop := vetDeadRow.holds Tryd.pinned (OpenSpec.ofChange vetDeadSpec)

/-- ITS FALSE NEIGHBOUR: 'it returns false'. Refute it at one input. -/
def vetDeadWrong : ChangeSpec := { name := "vetDead", fn := fun _ => fun
  | [d1, d2, d3] => { results := [.lit (.bool false)], args := [d1, d2, d3] }
  | _ => none }
def VetDeadWrongFalsely : Prop := vetDeadRow.holds Tryd.pinned (OpenSpec.ofChange vetDeadWrong)

/- THE SECOND FORM. 'bulk': how many values and letters a reading holds, each counted each time it is reached (what is shared counts as often as it is met; a slice's spare places count too). A statement '..UptoSaid' is the law's where the arguments, and the package variables that the reading takes, are together of bulk at most 1048576: NARROWER than '..Said'. Prove '..Said' where nothing that the law and all that it calls make is longer than what came in: it says more and counts as full. Else prove '..UptoSaid'. A law counts once. -/
mutual
def uptoBulk {H : Type} : DataW H → Nat
  | .lit (.string bytes) => bytes.length + 1
  | .lit _ => 1
  | .nil => 1
  | .ptr d => uptoBulk d + 1
  | .slice elems spare => uptoBulkAll elems + uptoBulkAll spare + 1
  | .agg parts => uptoBulkAll parts + 1
  | .iface _ d => uptoBulk d + 1
  | .map entries => uptoBulkEntries entries + 1
  | .held _ => 1
def uptoBulkAll {H : Type} : List (DataW H) → Nat
  | [] => 0
  | d :: r => uptoBulk d + uptoBulkAll r
def uptoBulkEntries {H : Type} : List (Lit × DataW H) → Nat
  | [] => 0
  | x :: r => uptoBulkEntry x + uptoBulkEntries r
def uptoBulkEntry {H : Type} : Lit × DataW H → Nat
  | (.string bytes, d) => bytes.length + uptoBulk d + 1
  | (_, d) => uptoBulk d + 1
 end
def uptoSmall : (H : Type) → List (DataW H) → Bool := fun _ ds => decide (uptoBulkAll ds ≤ 1048576)
def OpenSpec.upto (s : _root_.Go.ChangeSpec) : _root_.Go.OpenSpec := { _root_.Go.OpenSpec.ofChange s with cond := some uptoSmall }

/-- 'troupelaw10.VetModules', WHERE WHAT IT READS IS OF BULK AT MOST 1048576: true; the input reads as it did. -/
def vetModulesUptoRow : OpenClaim := { program := "ytohdhckafebmhaadoor", sum := "a5d242bbbb4db367757805e18779b695cb7f04bfe81b61734965a6ec861ee39a", func := "troupe/troupelaw10.VetModules", spec := "vetModules", unfollowed := true, recurses := true, named := ["strings.asciiSpace", "unicode.White_Space"], loops := true, apart := false, laid := [("unicode.White_Space", laid_unicode_White_Space), ("strings.asciiSpace", laid_strings_asciiSpace)], narrowed := true }
def VetModulesUptoSaid : Prop := vetModulesUptoRow.holds Tryd.pinned (OpenSpec.upto vetModulesSpec)

/-- 'troupelaw10.VetTurns', WHERE WHAT IT READS IS OF BULK AT MOST 1048576: true; the input reads as it did. -/
def vetTurnsUptoRow : OpenClaim := { program := "ytohdhckafebmhaadoor", sum := "a5d242bbbb4db367757805e18779b695cb7f04bfe81b61734965a6ec861ee39a", func := "troupe/troupelaw10.VetTurns", spec := "vetTurns", unfollowed := true, recurses := true, named := ["strings.asciiSpace", "unicode.White_Space"], loops := true, apart := false, laid := [("unicode.White_Space", laid_unicode_White_Space), ("strings.asciiSpace", laid_strings_asciiSpace)], narrowed := true }
def VetTurnsUptoSaid : Prop := vetTurnsUptoRow.holds Tryd.pinned (OpenSpec.upto vetTurnsSpec)

/-- 'troupelaw10.VetNests', WHERE WHAT IT READS IS OF BULK AT MOST 1048576: true; the input reads as it did. -/
def vetNestsUptoRow : OpenClaim := { program := "ytohdhckafebmhaadoor", sum := "a5d242bbbb4db367757805e18779b695cb7f04bfe81b61734965a6ec861ee39a", func := "troupe/troupelaw10.VetNests", spec := "vetNests", unfollowed := true, recurses := true, named := ["strings.asciiSpace", "unicode.White_Space"], apart := false, laid := [("unicode.White_Space", laid_unicode_White_Space), ("strings.asciiSpace", laid_strings_asciiSpace)], narrowed := true }
def VetNestsUptoSaid : Prop := vetNestsUptoRow.holds Tryd.pinned (OpenSpec.upto vetNestsSpec)

/-- 'troupelaw10.VetOperands', WHERE WHAT IT READS IS OF BULK AT MOST 1048576: true; the input reads as it did. -/
def vetOperandsUptoRow : OpenClaim := { program := "ytohdhckafebmhaadoor", sum := "a5d242bbbb4db367757805e18779b695cb7f04bfe81b61734965a6ec861ee39a", func := "troupe/troupelaw10.VetOperands", spec := "vetOperands", unfollowed := true, recurses := true, named := ["strings.asciiSpace", "unicode.White_Space"], apart := false, laid := [("unicode.White_Space", laid_unicode_White_Space), ("strings.asciiSpace", laid_strings_asciiSpace)], narrowed := true }
def VetOperandsUptoSaid : Prop := vetOperandsUptoRow.holds Tryd.pinned (OpenSpec.upto vetOperandsSpec)

/-- 'troupelaw10.VetLabels', WHERE WHAT IT READS IS OF BULK AT MOST 1048576: true; the input reads as it did. -/
def vetLabelsUptoRow : OpenClaim := { program := "ytohdhckafebmhaadoor", sum := "a5d242bbbb4db367757805e18779b695cb7f04bfe81b61734965a6ec861ee39a", func := "troupe/troupelaw10.VetLabels", spec := "vetLabels", unfollowed := true, recurses := true, named := ["strings.asciiSpace", "unicode.White_Space"], apart := false, laid := [("unicode.White_Space", laid_unicode_White_Space), ("strings.asciiSpace", laid_strings_asciiSpace)], narrowed := true }
def VetLabelsUptoSaid : Prop := vetLabelsUptoRow.holds Tryd.pinned (OpenSpec.upto vetLabelsSpec)

/-- 'troupelaw10.VetRows', WHERE WHAT IT READS IS OF BULK AT MOST 1048576: true; the input reads as it did. -/
def vetRowsUptoRow : OpenClaim := { program := "ytohdhckafebmhaadoor", sum := "a5d242bbbb4db367757805e18779b695cb7f04bfe81b61734965a6ec861ee39a", func := "troupe/troupelaw10.VetRows", spec := "vetRows", unfollowed := true, recurses := true, named := ["strings.asciiSpace", "unicode.White_Space"], apart := false, laid := [("unicode.White_Space", laid_unicode_White_Space), ("strings.asciiSpace", laid_strings_asciiSpace)], narrowed := true }
def VetRowsUptoSaid : Prop := vetRowsUptoRow.holds Tryd.pinned (OpenSpec.upto vetRowsSpec)

/-- 'troupelaw10.VetTries', WHERE WHAT IT READS IS OF BULK AT MOST 1048576: true; the input reads as it did. -/
def vetTriesUptoRow : OpenClaim := { program := "ytohdhckafebmhaadoor", sum := "a5d242bbbb4db367757805e18779b695cb7f04bfe81b61734965a6ec861ee39a", func := "troupe/troupelaw10.VetTries", spec := "vetTries", inPlace := ["internal/reflectlite.ValueOf", "(internal/reflectlite.Value).Type", "(internal/reflectlite.Value).IsNil", "internal/reflectlite.TypeOf", "(internal/reflectlite.Value).Elem", "(internal/reflectlite.Value).Set"], unfollowed := true, recurses := true, named := ["strings.asciiSpace", "unicode.White_Space", "errors.errorType"], loops := true, apart := false, laid := [("errors.errorType", laid_errors_errorType), ("unicode.White_Space", laid_unicode_White_Space), ("strings.asciiSpace", laid_strings_asciiSpace)], narrowed := true }
def VetTriesUptoSaid : Prop := vetTriesUptoRow.holds Tryd.pinned (OpenSpec.upto vetTriesSpec)

/-- 'troupelaw10.VetDead', WHERE WHAT IT READS IS OF BULK AT MOST 1048576: true; the input reads as it did. -/
def vetDeadUptoRow : OpenClaim := { program := "ytohdhckafebmhaadoor", sum := "a5d242bbbb4db367757805e18779b695cb7f04bfe81b61734965a6ec861ee39a", func := "troupe/troupelaw10.VetDead", spec := "vetDead", inPlace := ["internal/reflectlite.ValueOf", "(internal/reflectlite.Value).Type", "(internal/reflectlite.Value).IsNil", "internal/reflectlite.TypeOf", "(internal/reflectlite.Value).Elem", "(internal/reflectlite.Value).Set"], unfollowed := true, recurses := true, named := ["strings.asciiSpace", "unicode.White_Space", "errors.errorType"], loops := true, apart := false, laid := [("errors.errorType", laid_errors_errorType), ("unicode.White_Space", laid_unicode_White_Space), ("strings.asciiSpace", laid_strings_asciiSpace)], narrowed := true }
def VetDeadUptoSaid : Prop := vetDeadUptoRow.holds Tryd.pinned (OpenSpec.upto vetDeadSpec)

end Rows
end Go.Proofs.YtohdhckafebmhaaDoor
