/-
  NARROWER THAN 'FOR EVERY INPUT', by the rows' own cells (each row's printed sentence says how): TreeRights: loops, laid · TreeWrites: loops, laid · TreeOrders: loops, laid · TreeDeep: laid · TreeParts: laid · TreeCompares: loops, laid · TreeWords: loops, laid · TreeKept: loops, laid · TreeRound: loops, laid · TreeNumbers: laid · TreeAtoms: laid.
  DERIVED. THE GIVEN ROWS OF THIS SEAT. 11 by the template 'for every input the law returns true; each argument reads behind the call as it read before'; 0 by the template 'total and deterministic' (their statements: YteaabbghnfideaaDoorTotals.lean).
  GIVEN WITH THE SEED: the statements are not yours to turn. If you find one false, say at which input.
  Laid BY PROGRAM, IN A SANDBOX (cutbox-rows.mjs): the forced cells as the released guide's own fill.sh prints them over the translation f660edbbb07f95e5… (all of the seat's roots in one cut). By AI agents, Wed Nov 11 2026. No macro, syntax, notation, axiom, sorry.
-/
import Derived.Test.YteaabbghnfideaaDoorChecked
import GoSem.Claim
import GoSem.ClaimJoined
import GoSem.ClaimMapViews
import Derived.JoinedTies
import Derived.KernelRfl
namespace Go.Proofs.YteaabbghnfideaaDoor
/- THE CELL 'sum', in the pinned program and in every row, IS THE sha256 OF THE DUMP (.gsa) THAT YteaabbghnfideaaDoorProg.lean LOADS. Nothing in Lean hashes anything: it is a label: what it is worth is what the hold of that sum in a sandbox is worth. -/
noncomputable def Tryd.pinned : Pinned := { name := "yteaabbghnfideaadoor", sum := "f660edbbb07f95e52f101ec77682675bd3eebc1e5ced10cb7df57976c91908e1", checked := Tryd.checked }
namespace Rows
def none {H : Type} : Left H := { results := [], args := [] }

/- WHAT THE LISTED PACKAGE-LEVEL VARIABLES READ AS WHEN THE CALL BEGINS. Each datum BY PROGRAM (the guide's laid-datum.mjs) off the statement by which the dump's own 'gosem.cut.vars' lays the variable. In a bare row this is a premise. The card (YteaabbghnfideaaDoorCards.lean) ties it to the program's text. -/
def laid_math_bits_deBruijn32tab {H : Type} : DataW H := .agg [.lit (.int .u8 0), .lit (.int .u8 1), .lit (.int .u8 28), .lit (.int .u8 2), .lit (.int .u8 29), .lit (.int .u8 14), .lit (.int .u8 24), .lit (.int .u8 3), .lit (.int .u8 30), .lit (.int .u8 22), .lit (.int .u8 20), .lit (.int .u8 15), .lit (.int .u8 25), .lit (.int .u8 17), .lit (.int .u8 4), .lit (.int .u8 8), .lit (.int .u8 31), .lit (.int .u8 27), .lit (.int .u8 13), .lit (.int .u8 23), .lit (.int .u8 21), .lit (.int .u8 19), .lit (.int .u8 16), .lit (.int .u8 7), .lit (.int .u8 26), .lit (.int .u8 12), .lit (.int .u8 18), .lit (.int .u8 6), .lit (.int .u8 11), .lit (.int .u8 5), .lit (.int .u8 10), .lit (.int .u8 9)]
def laid_math_bits_deBruijn64tab {H : Type} : DataW H := .agg [.lit (.int .u8 0), .lit (.int .u8 1), .lit (.int .u8 56), .lit (.int .u8 2), .lit (.int .u8 57), .lit (.int .u8 49), .lit (.int .u8 28), .lit (.int .u8 3), .lit (.int .u8 61), .lit (.int .u8 58), .lit (.int .u8 42), .lit (.int .u8 50), .lit (.int .u8 38), .lit (.int .u8 29), .lit (.int .u8 17), .lit (.int .u8 4), .lit (.int .u8 62), .lit (.int .u8 47), .lit (.int .u8 59), .lit (.int .u8 36), .lit (.int .u8 45), .lit (.int .u8 43), .lit (.int .u8 51), .lit (.int .u8 22), .lit (.int .u8 53), .lit (.int .u8 39), .lit (.int .u8 33), .lit (.int .u8 30), .lit (.int .u8 24), .lit (.int .u8 18), .lit (.int .u8 12), .lit (.int .u8 5), .lit (.int .u8 63), .lit (.int .u8 55), .lit (.int .u8 48), .lit (.int .u8 27), .lit (.int .u8 60), .lit (.int .u8 41), .lit (.int .u8 37), .lit (.int .u8 16), .lit (.int .u8 46), .lit (.int .u8 35), .lit (.int .u8 44), .lit (.int .u8 21), .lit (.int .u8 52), .lit (.int .u8 32), .lit (.int .u8 23), .lit (.int .u8 11), .lit (.int .u8 54), .lit (.int .u8 26), .lit (.int .u8 40), .lit (.int .u8 15), .lit (.int .u8 34), .lit (.int .u8 20), .lit (.int .u8 31), .lit (.int .u8 10), .lit (.int .u8 25), .lit (.int .u8 14), .lit (.int .u8 19), .lit (.int .u8 9), .lit (.int .u8 13), .lit (.int .u8 8), .lit (.int .u8 7), .lit (.int .u8 6)]
def laid_internal_strconv_uint64pow10 {H : Type} : DataW H := .agg [.lit (.int .u64 1), .lit (.int .u64 10), .lit (.int .u64 100), .lit (.int .u64 1000), .lit (.int .u64 10000), .lit (.int .u64 100000), .lit (.int .u64 1000000), .lit (.int .u64 10000000), .lit (.int .u64 100000000), .lit (.int .u64 1000000000), .lit (.int .u64 10000000000), .lit (.int .u64 100000000000), .lit (.int .u64 1000000000000), .lit (.int .u64 10000000000000), .lit (.int .u64 100000000000000), .lit (.int .u64 1000000000000000), .lit (.int .u64 10000000000000000), .lit (.int .u64 100000000000000000), .lit (.int .u64 1000000000000000000), .lit (.int .u64 10000000000000000000)]

/-- 'troupelaw02.TreeRights': WHATEVER THE INPUT: true; the input reads as it did. -/
def treeRightsSpec : ChangeSpec := { name := "treeRights", fn := fun _ => fun
  | [d] => { results := [.lit (.bool true)], args := [d] }
  | _ => none }
def treeRightsRow : OpenClaim := { program := "yteaabbghnfideaadoor", sum := "f660edbbb07f95e52f101ec77682675bd3eebc1e5ced10cb7df57976c91908e1", func := "troupe/troupelaw02.TreeRights", spec := "treeRights", inPlace := ["internal/abi.NoEscape"], recurses := true, named := ["internal/strconv.uint64pow10", "math/bits.deBruijn32tab", "math/bits.deBruijn64tab"], loops := true, apart := false, laid := [("math/bits.deBruijn32tab", laid_math_bits_deBruijn32tab), ("math/bits.deBruijn64tab", laid_math_bits_deBruijn64tab), ("internal/strconv.uint64pow10", laid_internal_strconv_uint64pow10)] }
def TreeRightsSaid : Prop := treeRightsRow.holds Tryd.pinned (OpenSpec.ofChange treeRightsSpec)

/-- ITS FALSE NEIGHBOUR: 'it returns false'. Refute it at one input. -/
def treeRightsWrong : ChangeSpec := { name := "treeRights", fn := fun _ => fun
  | [d] => { results := [.lit (.bool false)], args := [d] }
  | _ => none }
def TreeRightsWrongFalsely : Prop := treeRightsRow.holds Tryd.pinned (OpenSpec.ofChange treeRightsWrong)

/-- 'troupelaw02.TreeWrites': WHATEVER THE INPUT: true; the input reads as it did. -/
def treeWritesSpec : ChangeSpec := { name := "treeWrites", fn := fun _ => fun
  | [d] => { results := [.lit (.bool true)], args := [d] }
  | _ => none }
def treeWritesRow : OpenClaim := { program := "yteaabbghnfideaadoor", sum := "f660edbbb07f95e52f101ec77682675bd3eebc1e5ced10cb7df57976c91908e1", func := "troupe/troupelaw02.TreeWrites", spec := "treeWrites", inPlace := ["internal/abi.NoEscape"], recurses := true, named := ["internal/strconv.uint64pow10", "math/bits.deBruijn32tab", "math/bits.deBruijn64tab"], loops := true, apart := false, laid := [("math/bits.deBruijn32tab", laid_math_bits_deBruijn32tab), ("math/bits.deBruijn64tab", laid_math_bits_deBruijn64tab), ("internal/strconv.uint64pow10", laid_internal_strconv_uint64pow10)] }
def TreeWritesSaid : Prop := treeWritesRow.holds Tryd.pinned (OpenSpec.ofChange treeWritesSpec)

/-- ITS FALSE NEIGHBOUR: 'it returns false'. Refute it at one input. -/
def treeWritesWrong : ChangeSpec := { name := "treeWrites", fn := fun _ => fun
  | [d] => { results := [.lit (.bool false)], args := [d] }
  | _ => none }
def TreeWritesWrongFalsely : Prop := treeWritesRow.holds Tryd.pinned (OpenSpec.ofChange treeWritesWrong)

/-- 'troupelaw02.TreeOrders': WHATEVER THE INPUT: true; the input reads as it did. -/
def treeOrdersSpec : ChangeSpec := { name := "treeOrders", fn := fun _ => fun
  | [d1, d2, d3] => { results := [.lit (.bool true)], args := [d1, d2, d3] }
  | _ => none }
def treeOrdersRow : OpenClaim := { program := "yteaabbghnfideaadoor", sum := "f660edbbb07f95e52f101ec77682675bd3eebc1e5ced10cb7df57976c91908e1", func := "troupe/troupelaw02.TreeOrders", spec := "treeOrders", inPlace := ["internal/abi.NoEscape"], recurses := true, named := ["internal/strconv.uint64pow10", "math/bits.deBruijn32tab", "math/bits.deBruijn64tab"], loops := true, apart := false, laid := [("math/bits.deBruijn32tab", laid_math_bits_deBruijn32tab), ("math/bits.deBruijn64tab", laid_math_bits_deBruijn64tab), ("internal/strconv.uint64pow10", laid_internal_strconv_uint64pow10)] }
def TreeOrdersSaid : Prop := treeOrdersRow.holds Tryd.pinned (OpenSpec.ofChange treeOrdersSpec)

/-- ITS FALSE NEIGHBOUR: 'it returns false'. Refute it at one input. -/
def treeOrdersWrong : ChangeSpec := { name := "treeOrders", fn := fun _ => fun
  | [d1, d2, d3] => { results := [.lit (.bool false)], args := [d1, d2, d3] }
  | _ => none }
def TreeOrdersWrongFalsely : Prop := treeOrdersRow.holds Tryd.pinned (OpenSpec.ofChange treeOrdersWrong)

/-- 'troupelaw02.TreeDeep': WHATEVER THE INPUT: true; the input reads as it did. -/
def treeDeepSpec : ChangeSpec := { name := "treeDeep", fn := fun _ => fun
  | [d1, d2] => { results := [.lit (.bool true)], args := [d1, d2] }
  | _ => none }
def treeDeepRow : OpenClaim := { program := "yteaabbghnfideaadoor", sum := "f660edbbb07f95e52f101ec77682675bd3eebc1e5ced10cb7df57976c91908e1", func := "troupe/troupelaw02.TreeDeep", spec := "treeDeep", inPlace := ["internal/abi.NoEscape"], recurses := true, named := ["internal/strconv.uint64pow10", "math/bits.deBruijn32tab", "math/bits.deBruijn64tab"], apart := false, laid := [("math/bits.deBruijn32tab", laid_math_bits_deBruijn32tab), ("math/bits.deBruijn64tab", laid_math_bits_deBruijn64tab), ("internal/strconv.uint64pow10", laid_internal_strconv_uint64pow10)] }
def TreeDeepSaid : Prop := treeDeepRow.holds Tryd.pinned (OpenSpec.ofChange treeDeepSpec)

/-- ITS FALSE NEIGHBOUR: 'it returns false'. Refute it at one input. -/
def treeDeepWrong : ChangeSpec := { name := "treeDeep", fn := fun _ => fun
  | [d1, d2] => { results := [.lit (.bool false)], args := [d1, d2] }
  | _ => none }
def TreeDeepWrongFalsely : Prop := treeDeepRow.holds Tryd.pinned (OpenSpec.ofChange treeDeepWrong)

/-- 'troupelaw02.TreeParts': WHATEVER THE INPUT: true; the input reads as it did. -/
def treePartsSpec : ChangeSpec := { name := "treeParts", fn := fun _ => fun
  | [d1, d2] => { results := [.lit (.bool true)], args := [d1, d2] }
  | _ => none }
def treePartsRow : OpenClaim := { program := "yteaabbghnfideaadoor", sum := "f660edbbb07f95e52f101ec77682675bd3eebc1e5ced10cb7df57976c91908e1", func := "troupe/troupelaw02.TreeParts", spec := "treeParts", inPlace := ["internal/abi.NoEscape"], recurses := true, named := ["internal/strconv.uint64pow10", "math/bits.deBruijn32tab", "math/bits.deBruijn64tab"], apart := false, laid := [("math/bits.deBruijn32tab", laid_math_bits_deBruijn32tab), ("math/bits.deBruijn64tab", laid_math_bits_deBruijn64tab), ("internal/strconv.uint64pow10", laid_internal_strconv_uint64pow10)] }
def TreePartsSaid : Prop := treePartsRow.holds Tryd.pinned (OpenSpec.ofChange treePartsSpec)

/-- ITS FALSE NEIGHBOUR: 'it returns false'. Refute it at one input. -/
def treePartsWrong : ChangeSpec := { name := "treeParts", fn := fun _ => fun
  | [d1, d2] => { results := [.lit (.bool false)], args := [d1, d2] }
  | _ => none }
def TreePartsWrongFalsely : Prop := treePartsRow.holds Tryd.pinned (OpenSpec.ofChange treePartsWrong)

/-- 'troupelaw02.TreeCompares': WHATEVER THE INPUT: true; the input reads as it did. -/
def treeComparesSpec : ChangeSpec := { name := "treeCompares", fn := fun _ => fun
  | [d1, d2] => { results := [.lit (.bool true)], args := [d1, d2] }
  | _ => none }
def treeComparesRow : OpenClaim := { program := "yteaabbghnfideaadoor", sum := "f660edbbb07f95e52f101ec77682675bd3eebc1e5ced10cb7df57976c91908e1", func := "troupe/troupelaw02.TreeCompares", spec := "treeCompares", inPlace := ["internal/abi.NoEscape"], recurses := true, named := ["internal/strconv.uint64pow10", "math/bits.deBruijn32tab", "math/bits.deBruijn64tab"], loops := true, apart := false, laid := [("math/bits.deBruijn32tab", laid_math_bits_deBruijn32tab), ("math/bits.deBruijn64tab", laid_math_bits_deBruijn64tab), ("internal/strconv.uint64pow10", laid_internal_strconv_uint64pow10)] }
def TreeComparesSaid : Prop := treeComparesRow.holds Tryd.pinned (OpenSpec.ofChange treeComparesSpec)

/-- ITS FALSE NEIGHBOUR: 'it returns false'. Refute it at one input. -/
def treeComparesWrong : ChangeSpec := { name := "treeCompares", fn := fun _ => fun
  | [d1, d2] => { results := [.lit (.bool false)], args := [d1, d2] }
  | _ => none }
def TreeComparesWrongFalsely : Prop := treeComparesRow.holds Tryd.pinned (OpenSpec.ofChange treeComparesWrong)

/-- 'troupelaw02.TreeWords': WHATEVER THE INPUT: true; the input reads as it did. -/
def treeWordsSpec : ChangeSpec := { name := "treeWords", fn := fun _ => fun
  | [d] => { results := [.lit (.bool true)], args := [d] }
  | _ => none }
def treeWordsRow : OpenClaim := { program := "yteaabbghnfideaadoor", sum := "f660edbbb07f95e52f101ec77682675bd3eebc1e5ced10cb7df57976c91908e1", func := "troupe/troupelaw02.TreeWords", spec := "treeWords", inPlace := ["internal/abi.NoEscape"], recurses := true, named := ["internal/strconv.uint64pow10", "math/bits.deBruijn32tab", "math/bits.deBruijn64tab"], loops := true, apart := false, laid := [("math/bits.deBruijn32tab", laid_math_bits_deBruijn32tab), ("math/bits.deBruijn64tab", laid_math_bits_deBruijn64tab), ("internal/strconv.uint64pow10", laid_internal_strconv_uint64pow10)] }
def TreeWordsSaid : Prop := treeWordsRow.holds Tryd.pinned (OpenSpec.ofChange treeWordsSpec)

/-- ITS FALSE NEIGHBOUR: 'it returns false'. Refute it at one input. -/
def treeWordsWrong : ChangeSpec := { name := "treeWords", fn := fun _ => fun
  | [d] => { results := [.lit (.bool false)], args := [d] }
  | _ => none }
def TreeWordsWrongFalsely : Prop := treeWordsRow.holds Tryd.pinned (OpenSpec.ofChange treeWordsWrong)

/-- 'troupelaw02.TreeKept': WHATEVER THE INPUT: true; the input reads as it did. -/
def treeKeptSpec : ChangeSpec := { name := "treeKept", fn := fun _ => fun
  | [d1, d2] => { results := [.lit (.bool true)], args := [d1, d2] }
  | _ => none }
def treeKeptRow : OpenClaim := { program := "yteaabbghnfideaadoor", sum := "f660edbbb07f95e52f101ec77682675bd3eebc1e5ced10cb7df57976c91908e1", func := "troupe/troupelaw02.TreeKept", spec := "treeKept", inPlace := ["internal/abi.NoEscape"], recurses := true, named := ["internal/strconv.uint64pow10", "math/bits.deBruijn32tab", "math/bits.deBruijn64tab"], loops := true, apart := false, laid := [("math/bits.deBruijn32tab", laid_math_bits_deBruijn32tab), ("math/bits.deBruijn64tab", laid_math_bits_deBruijn64tab), ("internal/strconv.uint64pow10", laid_internal_strconv_uint64pow10)] }
def TreeKeptSaid : Prop := treeKeptRow.holds Tryd.pinned (OpenSpec.ofChange treeKeptSpec)

/-- ITS FALSE NEIGHBOUR: 'it returns false'. Refute it at one input. -/
def treeKeptWrong : ChangeSpec := { name := "treeKept", fn := fun _ => fun
  | [d1, d2] => { results := [.lit (.bool false)], args := [d1, d2] }
  | _ => none }
def TreeKeptWrongFalsely : Prop := treeKeptRow.holds Tryd.pinned (OpenSpec.ofChange treeKeptWrong)

/-- 'troupelaw02.TreeRound': WHATEVER THE INPUT: true; the input reads as it did. -/
def treeRoundSpec : ChangeSpec := { name := "treeRound", fn := fun _ => fun
  | [d1, d2] => { results := [.lit (.bool true)], args := [d1, d2] }
  | _ => none }
def treeRoundRow : OpenClaim := { program := "yteaabbghnfideaadoor", sum := "f660edbbb07f95e52f101ec77682675bd3eebc1e5ced10cb7df57976c91908e1", func := "troupe/troupelaw02.TreeRound", spec := "treeRound", inPlace := ["internal/abi.NoEscape", "internal/bytealg.IndexByteString"], recurses := true, named := ["internal/strconv.uint64pow10", "math/bits.deBruijn32tab", "math/bits.deBruijn64tab"], loops := true, apart := false, laid := [("math/bits.deBruijn32tab", laid_math_bits_deBruijn32tab), ("math/bits.deBruijn64tab", laid_math_bits_deBruijn64tab), ("internal/strconv.uint64pow10", laid_internal_strconv_uint64pow10)] }
def TreeRoundSaid : Prop := treeRoundRow.holds Tryd.pinned (OpenSpec.ofChange treeRoundSpec)

/-- ITS FALSE NEIGHBOUR: 'it returns false'. Refute it at one input. -/
def treeRoundWrong : ChangeSpec := { name := "treeRound", fn := fun _ => fun
  | [d1, d2] => { results := [.lit (.bool false)], args := [d1, d2] }
  | _ => none }
def TreeRoundWrongFalsely : Prop := treeRoundRow.holds Tryd.pinned (OpenSpec.ofChange treeRoundWrong)

/-- 'troupelaw02.TreeNumbers': WHATEVER THE INPUT: true; the input reads as it did. -/
def treeNumbersSpec : ChangeSpec := { name := "treeNumbers", fn := fun _ => fun
  | [d1, d2] => { results := [.lit (.bool true)], args := [d1, d2] }
  | _ => none }
def treeNumbersRow : OpenClaim := { program := "yteaabbghnfideaadoor", sum := "f660edbbb07f95e52f101ec77682675bd3eebc1e5ced10cb7df57976c91908e1", func := "troupe/troupelaw02.TreeNumbers", spec := "treeNumbers", inPlace := ["internal/abi.NoEscape", "internal/bytealg.IndexByteString"], recurses := true, named := ["internal/strconv.uint64pow10", "math/bits.deBruijn32tab", "math/bits.deBruijn64tab"], apart := false, laid := [("math/bits.deBruijn32tab", laid_math_bits_deBruijn32tab), ("math/bits.deBruijn64tab", laid_math_bits_deBruijn64tab), ("internal/strconv.uint64pow10", laid_internal_strconv_uint64pow10)] }
def TreeNumbersSaid : Prop := treeNumbersRow.holds Tryd.pinned (OpenSpec.ofChange treeNumbersSpec)

/-- ITS FALSE NEIGHBOUR: 'it returns false'. Refute it at one input. -/
def treeNumbersWrong : ChangeSpec := { name := "treeNumbers", fn := fun _ => fun
  | [d1, d2] => { results := [.lit (.bool false)], args := [d1, d2] }
  | _ => none }
def TreeNumbersWrongFalsely : Prop := treeNumbersRow.holds Tryd.pinned (OpenSpec.ofChange treeNumbersWrong)

/-- 'troupelaw02.TreeAtoms': WHATEVER THE INPUT: true; the input reads as it did. -/
def treeAtomsSpec : ChangeSpec := { name := "treeAtoms", fn := fun _ => fun
  | [d] => { results := [.lit (.bool true)], args := [d] }
  | _ => none }
def treeAtomsRow : OpenClaim := { program := "yteaabbghnfideaadoor", sum := "f660edbbb07f95e52f101ec77682675bd3eebc1e5ced10cb7df57976c91908e1", func := "troupe/troupelaw02.TreeAtoms", spec := "treeAtoms", inPlace := ["internal/abi.NoEscape", "internal/bytealg.IndexByteString"], recurses := true, named := ["internal/strconv.uint64pow10", "math/bits.deBruijn32tab", "math/bits.deBruijn64tab"], apart := false, laid := [("math/bits.deBruijn32tab", laid_math_bits_deBruijn32tab), ("math/bits.deBruijn64tab", laid_math_bits_deBruijn64tab), ("internal/strconv.uint64pow10", laid_internal_strconv_uint64pow10)] }
def TreeAtomsSaid : Prop := treeAtomsRow.holds Tryd.pinned (OpenSpec.ofChange treeAtomsSpec)

/-- ITS FALSE NEIGHBOUR: 'it returns false'. Refute it at one input. -/
def treeAtomsWrong : ChangeSpec := { name := "treeAtoms", fn := fun _ => fun
  | [d] => { results := [.lit (.bool false)], args := [d] }
  | _ => none }
def TreeAtomsWrongFalsely : Prop := treeAtomsRow.holds Tryd.pinned (OpenSpec.ofChange treeAtomsWrong)

/- THE SECOND FORM. 'bulk': how many values and letters a reading holds, each counted each time it is reached (what is shared counts as often as it is met; a slice's spare places count too). A statement '..UptoSaid' is the law's where the arguments, and the package variables that the reading takes, are together of bulk at most 1048576: NARROWER than '..Said'. Prove '..Said' where nothing that the law and all that it calls make is longer than what came in: it says more and counts as full. Else prove '..UptoSaid'. A law counts once. -/
mutual
def uptoBulk {H : Type} : DataW H → Nat
  | .lit (.string bytes) => bytes.length + 1
  | .lit _ => 1
  | .nil => 1
  | .ptr d => uptoBulk d + 1
  | .slice elems spare => uptoBulkAll elems + uptoBulkAll spare + 1
  | .agg parts => uptoBulkAll parts + 1
  | .iface _ d => uptoBulk d + 1
  | .map entries => uptoBulkEntries entries + 1
  | .held _ => 1
def uptoBulkAll {H : Type} : List (DataW H) → Nat
  | [] => 0
  | d :: r => uptoBulk d + uptoBulkAll r
def uptoBulkEntries {H : Type} : List (Lit × DataW H) → Nat
  | [] => 0
  | x :: r => uptoBulkEntry x + uptoBulkEntries r
def uptoBulkEntry {H : Type} : Lit × DataW H → Nat
  | (.string bytes, d) => bytes.length + uptoBulk d + 1
  | (_, d) => uptoBulk d + 1
 end
def uptoSmall : (H : Type) → List (DataW H) → Bool := fun _ ds => decide (uptoBulkAll ds ≤ 1048576)
def OpenSpec.upto (s : _root_.Go.ChangeSpec) : _root_.Go.OpenSpec := { _root_.Go.OpenSpec.ofChange s with cond := some uptoSmall }

/-- 'troupelaw02.TreeRights', WHERE WHAT IT READS IS OF BULK AT MOST 1048576: true; the input reads as it did. -/
def treeRightsUptoRow : OpenClaim := { program := "yteaabbghnfideaadoor", sum := "f660edbbb07f95e52f101ec77682675bd3eebc1e5ced10cb7df57976c91908e1", func := "troupe/troupelaw02.TreeRights", spec := "treeRights", inPlace := ["internal/abi.NoEscape"], recurses := true, named := ["internal/strconv.uint64pow10", "math/bits.deBruijn32tab", "math/bits.deBruijn64tab"], loops := true, apart := false, laid := [("math/bits.deBruijn32tab", laid_math_bits_deBruijn32tab), ("math/bits.deBruijn64tab", laid_math_bits_deBruijn64tab), ("internal/strconv.uint64pow10", laid_internal_strconv_uint64pow10)], narrowed := true }
def TreeRightsUptoSaid : Prop := treeRightsUptoRow.holds Tryd.pinned (OpenSpec.upto treeRightsSpec)

/-- 'troupelaw02.TreeWrites', WHERE WHAT IT READS IS OF BULK AT MOST 1048576: true; the input reads as it did. -/
def treeWritesUptoRow : OpenClaim := { program := "yteaabbghnfideaadoor", sum := "f660edbbb07f95e52f101ec77682675bd3eebc1e5ced10cb7df57976c91908e1", func := "troupe/troupelaw02.TreeWrites", spec := "treeWrites", inPlace := ["internal/abi.NoEscape"], recurses := true, named := ["internal/strconv.uint64pow10", "math/bits.deBruijn32tab", "math/bits.deBruijn64tab"], loops := true, apart := false, laid := [("math/bits.deBruijn32tab", laid_math_bits_deBruijn32tab), ("math/bits.deBruijn64tab", laid_math_bits_deBruijn64tab), ("internal/strconv.uint64pow10", laid_internal_strconv_uint64pow10)], narrowed := true }
def TreeWritesUptoSaid : Prop := treeWritesUptoRow.holds Tryd.pinned (OpenSpec.upto treeWritesSpec)

/-- 'troupelaw02.TreeOrders', WHERE WHAT IT READS IS OF BULK AT MOST 1048576: true; the input reads as it did. -/
def treeOrdersUptoRow : OpenClaim := { program := "yteaabbghnfideaadoor", sum := "f660edbbb07f95e52f101ec77682675bd3eebc1e5ced10cb7df57976c91908e1", func := "troupe/troupelaw02.TreeOrders", spec := "treeOrders", inPlace := ["internal/abi.NoEscape"], recurses := true, named := ["internal/strconv.uint64pow10", "math/bits.deBruijn32tab", "math/bits.deBruijn64tab"], loops := true, apart := false, laid := [("math/bits.deBruijn32tab", laid_math_bits_deBruijn32tab), ("math/bits.deBruijn64tab", laid_math_bits_deBruijn64tab), ("internal/strconv.uint64pow10", laid_internal_strconv_uint64pow10)], narrowed := true }
def TreeOrdersUptoSaid : Prop := treeOrdersUptoRow.holds Tryd.pinned (OpenSpec.upto treeOrdersSpec)

/-- 'troupelaw02.TreeDeep', WHERE WHAT IT READS IS OF BULK AT MOST 1048576: true; the input reads as it did. -/
def treeDeepUptoRow : OpenClaim := { program := "yteaabbghnfideaadoor", sum := "f660edbbb07f95e52f101ec77682675bd3eebc1e5ced10cb7df57976c91908e1", func := "troupe/troupelaw02.TreeDeep", spec := "treeDeep", inPlace := ["internal/abi.NoEscape"], recurses := true, named := ["internal/strconv.uint64pow10", "math/bits.deBruijn32tab", "math/bits.deBruijn64tab"], apart := false, laid := [("math/bits.deBruijn32tab", laid_math_bits_deBruijn32tab), ("math/bits.deBruijn64tab", laid_math_bits_deBruijn64tab), ("internal/strconv.uint64pow10", laid_internal_strconv_uint64pow10)], narrowed := true }
def TreeDeepUptoSaid : Prop := treeDeepUptoRow.holds Tryd.pinned (OpenSpec.upto treeDeepSpec)

/-- 'troupelaw02.TreeParts', WHERE WHAT IT READS IS OF BULK AT MOST 1048576: true; the input reads as it did. -/
def treePartsUptoRow : OpenClaim := { program := "yteaabbghnfideaadoor", sum := "f660edbbb07f95e52f101ec77682675bd3eebc1e5ced10cb7df57976c91908e1", func := "troupe/troupelaw02.TreeParts", spec := "treeParts", inPlace := ["internal/abi.NoEscape"], recurses := true, named := ["internal/strconv.uint64pow10", "math/bits.deBruijn32tab", "math/bits.deBruijn64tab"], apart := false, laid := [("math/bits.deBruijn32tab", laid_math_bits_deBruijn32tab), ("math/bits.deBruijn64tab", laid_math_bits_deBruijn64tab), ("internal/strconv.uint64pow10", laid_internal_strconv_uint64pow10)], narrowed := true }
def TreePartsUptoSaid : Prop := treePartsUptoRow.holds Tryd.pinned (OpenSpec.upto treePartsSpec)

/-- 'troupelaw02.TreeCompares', WHERE WHAT IT READS IS OF BULK AT MOST 1048576: true; the input reads as it did. -/
def treeComparesUptoRow : OpenClaim := { program := "yteaabbghnfideaadoor", sum := "f660edbbb07f95e52f101ec77682675bd3eebc1e5ced10cb7df57976c91908e1", func := "troupe/troupelaw02.TreeCompares", spec := "treeCompares", inPlace := ["internal/abi.NoEscape"], recurses := true, named := ["internal/strconv.uint64pow10", "math/bits.deBruijn32tab", "math/bits.deBruijn64tab"], loops := true, apart := false, laid := [("math/bits.deBruijn32tab", laid_math_bits_deBruijn32tab), ("math/bits.deBruijn64tab", laid_math_bits_deBruijn64tab), ("internal/strconv.uint64pow10", laid_internal_strconv_uint64pow10)], narrowed := true }
def TreeComparesUptoSaid : Prop := treeComparesUptoRow.holds Tryd.pinned (OpenSpec.upto treeComparesSpec)

/-- 'troupelaw02.TreeWords', WHERE WHAT IT READS IS OF BULK AT MOST 1048576: true; the input reads as it did. -/
def treeWordsUptoRow : OpenClaim := { program := "yteaabbghnfideaadoor", sum := "f660edbbb07f95e52f101ec77682675bd3eebc1e5ced10cb7df57976c91908e1", func := "troupe/troupelaw02.TreeWords", spec := "treeWords", inPlace := ["internal/abi.NoEscape"], recurses := true, named := ["internal/strconv.uint64pow10", "math/bits.deBruijn32tab", "math/bits.deBruijn64tab"], loops := true, apart := false, laid := [("math/bits.deBruijn32tab", laid_math_bits_deBruijn32tab), ("math/bits.deBruijn64tab", laid_math_bits_deBruijn64tab), ("internal/strconv.uint64pow10", laid_internal_strconv_uint64pow10)], narrowed := true }
def TreeWordsUptoSaid : Prop := treeWordsUptoRow.holds Tryd.pinned (OpenSpec.upto treeWordsSpec)

/-- 'troupelaw02.TreeKept', WHERE WHAT IT READS IS OF BULK AT MOST 1048576: true; the input reads as it did. -/
def treeKeptUptoRow : OpenClaim := { program := "yteaabbghnfideaadoor", sum := "f660edbbb07f95e52f101ec77682675bd3eebc1e5ced10cb7df57976c91908e1", func := "troupe/troupelaw02.TreeKept", spec := "treeKept", inPlace := ["internal/abi.NoEscape"], recurses := true, named := ["internal/strconv.uint64pow10", "math/bits.deBruijn32tab", "math/bits.deBruijn64tab"], loops := true, apart := false, laid := [("math/bits.deBruijn32tab", laid_math_bits_deBruijn32tab), ("math/bits.deBruijn64tab", laid_math_bits_deBruijn64tab), ("internal/strconv.uint64pow10", laid_internal_strconv_uint64pow10)], narrowed := true }
def TreeKeptUptoSaid : Prop := treeKeptUptoRow.holds Tryd.pinned (OpenSpec.upto treeKeptSpec)

/-- 'troupelaw02.TreeRound', WHERE WHAT IT READS IS OF BULK AT MOST 1048576: true; the input reads as it did. -/
def treeRoundUptoRow : OpenClaim := { program := "yteaabbghnfideaadoor", sum := "f660edbbb07f95e52f101ec77682675bd3eebc1e5ced10cb7df57976c91908e1", func := "troupe/troupelaw02.TreeRound", spec := "treeRound", inPlace := ["internal/abi.NoEscape", "internal/bytealg.IndexByteString"], recurses := true, named := ["internal/strconv.uint64pow10", "math/bits.deBruijn32tab", "math/bits.deBruijn64tab"], loops := true, apart := false, laid := [("math/bits.deBruijn32tab", laid_math_bits_deBruijn32tab), ("math/bits.deBruijn64tab", laid_math_bits_deBruijn64tab), ("internal/strconv.uint64pow10", laid_internal_strconv_uint64pow10)], narrowed := true }
def TreeRoundUptoSaid : Prop := treeRoundUptoRow.holds Tryd.pinned (OpenSpec.upto treeRoundSpec)

/-- 'troupelaw02.TreeNumbers', WHERE WHAT IT READS IS OF BULK AT MOST 1048576: true; the input reads as it did. -/
def treeNumbersUptoRow : OpenClaim := { program := "yteaabbghnfideaadoor", sum := "f660edbbb07f95e52f101ec77682675bd3eebc1e5ced10cb7df57976c91908e1", func := "troupe/troupelaw02.TreeNumbers", spec := "treeNumbers", inPlace := ["internal/abi.NoEscape", "internal/bytealg.IndexByteString"], recurses := true, named := ["internal/strconv.uint64pow10", "math/bits.deBruijn32tab", "math/bits.deBruijn64tab"], apart := false, laid := [("math/bits.deBruijn32tab", laid_math_bits_deBruijn32tab), ("math/bits.deBruijn64tab", laid_math_bits_deBruijn64tab), ("internal/strconv.uint64pow10", laid_internal_strconv_uint64pow10)], narrowed := true }
def TreeNumbersUptoSaid : Prop := treeNumbersUptoRow.holds Tryd.pinned (OpenSpec.upto treeNumbersSpec)

/-- 'troupelaw02.TreeAtoms', WHERE WHAT IT READS IS OF BULK AT MOST 1048576: true; the input reads as it did. -/
def treeAtomsUptoRow : OpenClaim := { program := "yteaabbghnfideaadoor", sum := "f660edbbb07f95e52f101ec77682675bd3eebc1e5ced10cb7df57976c91908e1", func := "troupe/troupelaw02.TreeAtoms", spec := "treeAtoms", inPlace := ["internal/abi.NoEscape", "internal/bytealg.IndexByteString"], recurses := true, named := ["internal/strconv.uint64pow10", "math/bits.deBruijn32tab", "math/bits.deBruijn64tab"], apart := false, laid := [("math/bits.deBruijn32tab", laid_math_bits_deBruijn32tab), ("math/bits.deBruijn64tab", laid_math_bits_deBruijn64tab), ("internal/strconv.uint64pow10", laid_internal_strconv_uint64pow10)], narrowed := true }
def TreeAtomsUptoSaid : Prop := treeAtomsUptoRow.holds Tryd.pinned (OpenSpec.upto treeAtomsSpec)

end Rows
end Go.Proofs.YteaabbghnfideaaDoor
