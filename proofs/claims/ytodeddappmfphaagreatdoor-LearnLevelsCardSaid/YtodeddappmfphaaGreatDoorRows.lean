/-
  NARROWER THAN 'FOR EVERY INPUT', by the rows' own cells (each row's printed sentence says how): TrailActs: laid · TrailBack: laid · TrailLits: laid · TrailValues: laid · LearnRow: laid · LearnLevels: laid.
  DERIVED. THE GIVEN ROWS OF THIS SEAT. 6 by the template 'for every input the law returns true; each argument reads behind the call as it read before'; 0 by the template 'total and deterministic' (their statements: YtodeddappmfphaaGreatDoorTotals.lean).
  GIVEN WITH THE SEED: the statements are not yours to turn. If you find one false, say at which input.
  Laid BY PROGRAM, IN A SANDBOX (cutbox-rows.mjs): the forced cells as the released guide's own fill.sh prints them over the translation 21cb683b36972d51… (all of the seat's roots in one cut). By AI agents, Wed Nov 11 2026. No macro, syntax, notation, axiom, sorry.
-/
import Derived.Test.YtodeddappmfphaaGreatDoorChecked
import GoSem.Claim
import GoSem.ClaimJoined
import GoSem.ClaimMapViews
import Derived.JoinedTies
import Derived.KernelRfl
namespace Go.Proofs.YtodeddappmfphaaGreatDoor
/- THE CELL 'sum', in the pinned program and in every row, IS THE sha256 OF THE DUMP (.gsa) THAT YtodeddappmfphaaGreatDoorProg.lean LOADS. Nothing in Lean hashes anything: it is a label: what it is worth is what the hold of that sum in a sandbox is worth. -/
noncomputable def Tryz.pinned : Pinned := { name := "ytodeddappmfphaagreatdoor", sum := "21cb683b36972d5198737f698807cd1d457983f67f452d0f93cb00082d976be4", checked := Tryz.checked }
namespace Rows
def none {H : Type} : Left H := { results := [], args := [] }

/- WHAT THE LISTED PACKAGE-LEVEL VARIABLES READ AS WHEN THE CALL BEGINS. Each datum BY PROGRAM (the guide's laid-datum.mjs) off the statement by which the dump's own 'gosem.cut.vars' lays the variable. In a bare row this is a premise. The card (YtodeddappmfphaaGreatDoorCards.lean) ties it to the program's text. -/
def laid_math_bits_deBruijn32tab {H : Type} : DataW H := .agg [.lit (.int .u8 0), .lit (.int .u8 1), .lit (.int .u8 28), .lit (.int .u8 2), .lit (.int .u8 29), .lit (.int .u8 14), .lit (.int .u8 24), .lit (.int .u8 3), .lit (.int .u8 30), .lit (.int .u8 22), .lit (.int .u8 20), .lit (.int .u8 15), .lit (.int .u8 25), .lit (.int .u8 17), .lit (.int .u8 4), .lit (.int .u8 8), .lit (.int .u8 31), .lit (.int .u8 27), .lit (.int .u8 13), .lit (.int .u8 23), .lit (.int .u8 21), .lit (.int .u8 19), .lit (.int .u8 16), .lit (.int .u8 7), .lit (.int .u8 26), .lit (.int .u8 12), .lit (.int .u8 18), .lit (.int .u8 6), .lit (.int .u8 11), .lit (.int .u8 5), .lit (.int .u8 10), .lit (.int .u8 9)]
def laid_math_bits_deBruijn64tab {H : Type} : DataW H := .agg [.lit (.int .u8 0), .lit (.int .u8 1), .lit (.int .u8 56), .lit (.int .u8 2), .lit (.int .u8 57), .lit (.int .u8 49), .lit (.int .u8 28), .lit (.int .u8 3), .lit (.int .u8 61), .lit (.int .u8 58), .lit (.int .u8 42), .lit (.int .u8 50), .lit (.int .u8 38), .lit (.int .u8 29), .lit (.int .u8 17), .lit (.int .u8 4), .lit (.int .u8 62), .lit (.int .u8 47), .lit (.int .u8 59), .lit (.int .u8 36), .lit (.int .u8 45), .lit (.int .u8 43), .lit (.int .u8 51), .lit (.int .u8 22), .lit (.int .u8 53), .lit (.int .u8 39), .lit (.int .u8 33), .lit (.int .u8 30), .lit (.int .u8 24), .lit (.int .u8 18), .lit (.int .u8 12), .lit (.int .u8 5), .lit (.int .u8 63), .lit (.int .u8 55), .lit (.int .u8 48), .lit (.int .u8 27), .lit (.int .u8 60), .lit (.int .u8 41), .lit (.int .u8 37), .lit (.int .u8 16), .lit (.int .u8 46), .lit (.int .u8 35), .lit (.int .u8 44), .lit (.int .u8 21), .lit (.int .u8 52), .lit (.int .u8 32), .lit (.int .u8 23), .lit (.int .u8 11), .lit (.int .u8 54), .lit (.int .u8 26), .lit (.int .u8 40), .lit (.int .u8 15), .lit (.int .u8 34), .lit (.int .u8 20), .lit (.int .u8 31), .lit (.int .u8 10), .lit (.int .u8 25), .lit (.int .u8 14), .lit (.int .u8 19), .lit (.int .u8 9), .lit (.int .u8 13), .lit (.int .u8 8), .lit (.int .u8 7), .lit (.int .u8 6)]
def laid_internal_strconv_uint64pow10 {H : Type} : DataW H := .agg [.lit (.int .u64 1), .lit (.int .u64 10), .lit (.int .u64 100), .lit (.int .u64 1000), .lit (.int .u64 10000), .lit (.int .u64 100000), .lit (.int .u64 1000000), .lit (.int .u64 10000000), .lit (.int .u64 100000000), .lit (.int .u64 1000000000), .lit (.int .u64 10000000000), .lit (.int .u64 100000000000), .lit (.int .u64 1000000000000), .lit (.int .u64 10000000000000), .lit (.int .u64 100000000000000), .lit (.int .u64 1000000000000000), .lit (.int .u64 10000000000000000), .lit (.int .u64 100000000000000000), .lit (.int .u64 1000000000000000000), .lit (.int .u64 10000000000000000000)]

/-- 'theodolitelaw20.TrailActs': WHATEVER THE INPUT: true; the input reads as it did. -/
def trailActsSpec : ChangeSpec := { name := "trailActs", fn := fun _ => fun
  | [d1, d2, d3] => { results := [.lit (.bool true)], args := [d1, d2, d3] }
  | _ => none }
def trailActsRow : OpenClaim := { program := "ytodeddappmfphaagreatdoor", sum := "21cb683b36972d5198737f698807cd1d457983f67f452d0f93cb00082d976be4", func := "theodolite/theodolitelaw20.TrailActs", spec := "trailActs", inPlace := ["math/bits.Sub64", "math/bits.Add64", "internal/abi.NoEscape", "internal/bytealg.MakeNoZero"], unfollowed := true, recurses := true, named := ["math/bits.divideError", "math/bits.overflowError", "internal/strconv.uint64pow10", "math/bits.deBruijn32tab", "math/bits.deBruijn64tab"], apart := false, laid := [("math/bits.deBruijn32tab", laid_math_bits_deBruijn32tab), ("math/bits.deBruijn64tab", laid_math_bits_deBruijn64tab), ("internal/strconv.uint64pow10", laid_internal_strconv_uint64pow10)] }
def TrailActsSaid : Prop := trailActsRow.holds Tryz.pinned (OpenSpec.ofChange trailActsSpec)

/-- ITS FALSE NEIGHBOUR: 'it returns false'. Refute it at one input. -/
def trailActsWrong : ChangeSpec := { name := "trailActs", fn := fun _ => fun
  | [d1, d2, d3] => { results := [.lit (.bool false)], args := [d1, d2, d3] }
  | _ => none }
def TrailActsWrongFalsely : Prop := trailActsRow.holds Tryz.pinned (OpenSpec.ofChange trailActsWrong)

/-- 'theodolitelaw20.TrailBack': WHATEVER THE INPUT: true; the input reads as it did. -/
def trailBackSpec : ChangeSpec := { name := "trailBack", fn := fun _ => fun
  | [d1, d2, d3] => { results := [.lit (.bool true)], args := [d1, d2, d3] }
  | _ => none }
def trailBackRow : OpenClaim := { program := "ytodeddappmfphaagreatdoor", sum := "21cb683b36972d5198737f698807cd1d457983f67f452d0f93cb00082d976be4", func := "theodolite/theodolitelaw20.TrailBack", spec := "trailBack", inPlace := ["math/bits.Sub64", "math/bits.Add64", "internal/abi.NoEscape", "internal/bytealg.MakeNoZero"], unfollowed := true, recurses := true, named := ["math/bits.divideError", "math/bits.overflowError", "internal/strconv.uint64pow10", "math/bits.deBruijn32tab", "math/bits.deBruijn64tab"], apart := false, laid := [("math/bits.deBruijn32tab", laid_math_bits_deBruijn32tab), ("math/bits.deBruijn64tab", laid_math_bits_deBruijn64tab), ("internal/strconv.uint64pow10", laid_internal_strconv_uint64pow10)] }
def TrailBackSaid : Prop := trailBackRow.holds Tryz.pinned (OpenSpec.ofChange trailBackSpec)

/-- ITS FALSE NEIGHBOUR: 'it returns false'. Refute it at one input. -/
def trailBackWrong : ChangeSpec := { name := "trailBack", fn := fun _ => fun
  | [d1, d2, d3] => { results := [.lit (.bool false)], args := [d1, d2, d3] }
  | _ => none }
def TrailBackWrongFalsely : Prop := trailBackRow.holds Tryz.pinned (OpenSpec.ofChange trailBackWrong)

/-- 'theodolitelaw20.TrailLits': WHATEVER THE INPUT: true; the input reads as it did. -/
def trailLitsSpec : ChangeSpec := { name := "trailLits", fn := fun _ => fun
  | [d1, d2] => { results := [.lit (.bool true)], args := [d1, d2] }
  | _ => none }
def trailLitsRow : OpenClaim := { program := "ytodeddappmfphaagreatdoor", sum := "21cb683b36972d5198737f698807cd1d457983f67f452d0f93cb00082d976be4", func := "theodolite/theodolitelaw20.TrailLits", spec := "trailLits", inPlace := ["math/bits.Sub64", "math/bits.Add64", "internal/abi.NoEscape", "internal/bytealg.MakeNoZero"], unfollowed := true, recurses := true, named := ["math/bits.divideError", "math/bits.overflowError", "internal/strconv.uint64pow10", "math/bits.deBruijn32tab", "math/bits.deBruijn64tab"], apart := false, laid := [("math/bits.deBruijn32tab", laid_math_bits_deBruijn32tab), ("math/bits.deBruijn64tab", laid_math_bits_deBruijn64tab), ("internal/strconv.uint64pow10", laid_internal_strconv_uint64pow10)] }
def TrailLitsSaid : Prop := trailLitsRow.holds Tryz.pinned (OpenSpec.ofChange trailLitsSpec)

/-- ITS FALSE NEIGHBOUR: 'it returns false'. Refute it at one input. -/
def trailLitsWrong : ChangeSpec := { name := "trailLits", fn := fun _ => fun
  | [d1, d2] => { results := [.lit (.bool false)], args := [d1, d2] }
  | _ => none }
def TrailLitsWrongFalsely : Prop := trailLitsRow.holds Tryz.pinned (OpenSpec.ofChange trailLitsWrong)

/-- 'theodolitelaw20.TrailValues': WHATEVER THE INPUT: true; the input reads as it did. -/
def trailValuesSpec : ChangeSpec := { name := "trailValues", fn := fun _ => fun
  | [d1, d2, d3, d4] => { results := [.lit (.bool true)], args := [d1, d2, d3, d4] }
  | _ => none }
def trailValuesRow : OpenClaim := { program := "ytodeddappmfphaagreatdoor", sum := "21cb683b36972d5198737f698807cd1d457983f67f452d0f93cb00082d976be4", func := "theodolite/theodolitelaw20.TrailValues", spec := "trailValues", inPlace := ["math/bits.Sub64", "math/bits.Add64", "internal/abi.NoEscape", "internal/bytealg.MakeNoZero"], unfollowed := true, recurses := true, named := ["math/bits.divideError", "math/bits.overflowError", "internal/strconv.uint64pow10", "math/bits.deBruijn32tab", "math/bits.deBruijn64tab"], apart := false, laid := [("math/bits.deBruijn32tab", laid_math_bits_deBruijn32tab), ("math/bits.deBruijn64tab", laid_math_bits_deBruijn64tab), ("internal/strconv.uint64pow10", laid_internal_strconv_uint64pow10)] }
def TrailValuesSaid : Prop := trailValuesRow.holds Tryz.pinned (OpenSpec.ofChange trailValuesSpec)

/-- ITS FALSE NEIGHBOUR: 'it returns false'. Refute it at one input. -/
def trailValuesWrong : ChangeSpec := { name := "trailValues", fn := fun _ => fun
  | [d1, d2, d3, d4] => { results := [.lit (.bool false)], args := [d1, d2, d3, d4] }
  | _ => none }
def TrailValuesWrongFalsely : Prop := trailValuesRow.holds Tryz.pinned (OpenSpec.ofChange trailValuesWrong)

/-- 'theodolitelaw25.LearnRow': WHATEVER THE INPUT: true; the input reads as it did. -/
def learnRowSpec : ChangeSpec := { name := "learnRow", fn := fun _ => fun
  | [d1, d2, d3] => { results := [.lit (.bool true)], args := [d1, d2, d3] }
  | _ => none }
def learnRowRow : OpenClaim := { program := "ytodeddappmfphaagreatdoor", sum := "21cb683b36972d5198737f698807cd1d457983f67f452d0f93cb00082d976be4", func := "theodolite/theodolitelaw25.LearnRow", spec := "learnRow", inPlace := ["math/bits.Add64", "math/bits.Sub64", "internal/abi.NoEscape", "internal/bytealg.MakeNoZero"], unfollowed := true, recurses := true, named := ["math/bits.divideError", "math/bits.overflowError", "internal/strconv.uint64pow10", "math/bits.deBruijn32tab", "math/bits.deBruijn64tab"], apart := false, laid := [("math/bits.deBruijn32tab", laid_math_bits_deBruijn32tab), ("math/bits.deBruijn64tab", laid_math_bits_deBruijn64tab), ("internal/strconv.uint64pow10", laid_internal_strconv_uint64pow10)] }
def LearnRowSaid : Prop := learnRowRow.holds Tryz.pinned (OpenSpec.ofChange learnRowSpec)

/-- ITS FALSE NEIGHBOUR: 'it returns false'. Refute it at one input. -/
def learnRowWrong : ChangeSpec := { name := "learnRow", fn := fun _ => fun
  | [d1, d2, d3] => { results := [.lit (.bool false)], args := [d1, d2, d3] }
  | _ => none }
def LearnRowWrongFalsely : Prop := learnRowRow.holds Tryz.pinned (OpenSpec.ofChange learnRowWrong)

/-- 'theodolitelaw25.LearnLevels': WHATEVER THE INPUT: true; the input reads as it did. -/
def learnLevelsSpec : ChangeSpec := { name := "learnLevels", fn := fun _ => fun
  | [d1, d2] => { results := [.lit (.bool true)], args := [d1, d2] }
  | _ => none }
def learnLevelsRow : OpenClaim := { program := "ytodeddappmfphaagreatdoor", sum := "21cb683b36972d5198737f698807cd1d457983f67f452d0f93cb00082d976be4", func := "theodolite/theodolitelaw25.LearnLevels", spec := "learnLevels", inPlace := ["math/bits.Add64", "math/bits.Sub64", "internal/abi.NoEscape", "internal/bytealg.MakeNoZero"], unfollowed := true, recurses := true, named := ["math/bits.divideError", "math/bits.overflowError", "internal/strconv.uint64pow10", "math/bits.deBruijn32tab", "math/bits.deBruijn64tab"], apart := false, laid := [("math/bits.deBruijn32tab", laid_math_bits_deBruijn32tab), ("math/bits.deBruijn64tab", laid_math_bits_deBruijn64tab), ("internal/strconv.uint64pow10", laid_internal_strconv_uint64pow10)] }
def LearnLevelsSaid : Prop := learnLevelsRow.holds Tryz.pinned (OpenSpec.ofChange learnLevelsSpec)

/-- ITS FALSE NEIGHBOUR: 'it returns false'. Refute it at one input. -/
def learnLevelsWrong : ChangeSpec := { name := "learnLevels", fn := fun _ => fun
  | [d1, d2] => { results := [.lit (.bool false)], args := [d1, d2] }
  | _ => none }
def LearnLevelsWrongFalsely : Prop := learnLevelsRow.holds Tryz.pinned (OpenSpec.ofChange learnLevelsWrong)

/- THE SECOND FORM. 'bulk': how many values and letters a reading holds, each counted each time it is reached (what is shared counts as often as it is met; a slice's spare places count too). A statement '..UptoSaid' is the law's where the arguments, and the package variables that the reading takes, are together of bulk at most 1048576: NARROWER than '..Said'. Prove '..Said' where nothing that the law and all that it calls make is longer than what came in: it says more and counts as full. Else prove '..UptoSaid'. A law counts once. -/
mutual
def uptoBulk {H : Type} : DataW H → Nat
  | .lit (.string bytes) => bytes.length + 1
  | .lit _ => 1
  | .nil => 1
  | .ptr d => uptoBulk d + 1
  | .slice elems spare => uptoBulkAll elems + uptoBulkAll spare + 1
  | .agg parts => uptoBulkAll parts + 1
  | .iface _ d => uptoBulk d + 1
  | .map entries => uptoBulkEntries entries + 1
  | .held _ => 1
def uptoBulkAll {H : Type} : List (DataW H) → Nat
  | [] => 0
  | d :: r => uptoBulk d + uptoBulkAll r
def uptoBulkEntries {H : Type} : List (Lit × DataW H) → Nat
  | [] => 0
  | x :: r => uptoBulkEntry x + uptoBulkEntries r
def uptoBulkEntry {H : Type} : Lit × DataW H → Nat
  | (.string bytes, d) => bytes.length + uptoBulk d + 1
  | (_, d) => uptoBulk d + 1
 end
def uptoSmall : (H : Type) → List (DataW H) → Bool := fun _ ds => decide (uptoBulkAll ds ≤ 1048576)
def OpenSpec.upto (s : _root_.Go.ChangeSpec) : _root_.Go.OpenSpec := { _root_.Go.OpenSpec.ofChange s with cond := some uptoSmall }

/-- 'theodolitelaw20.TrailActs', WHERE WHAT IT READS IS OF BULK AT MOST 1048576: true; the input reads as it did. -/
def trailActsUptoRow : OpenClaim := { program := "ytodeddappmfphaagreatdoor", sum := "21cb683b36972d5198737f698807cd1d457983f67f452d0f93cb00082d976be4", func := "theodolite/theodolitelaw20.TrailActs", spec := "trailActs", inPlace := ["math/bits.Sub64", "math/bits.Add64", "internal/abi.NoEscape", "internal/bytealg.MakeNoZero"], unfollowed := true, recurses := true, named := ["math/bits.divideError", "math/bits.overflowError", "internal/strconv.uint64pow10", "math/bits.deBruijn32tab", "math/bits.deBruijn64tab"], apart := false, laid := [("math/bits.deBruijn32tab", laid_math_bits_deBruijn32tab), ("math/bits.deBruijn64tab", laid_math_bits_deBruijn64tab), ("internal/strconv.uint64pow10", laid_internal_strconv_uint64pow10)], narrowed := true }
def TrailActsUptoSaid : Prop := trailActsUptoRow.holds Tryz.pinned (OpenSpec.upto trailActsSpec)

/-- 'theodolitelaw20.TrailBack', WHERE WHAT IT READS IS OF BULK AT MOST 1048576: true; the input reads as it did. -/
def trailBackUptoRow : OpenClaim := { program := "ytodeddappmfphaagreatdoor", sum := "21cb683b36972d5198737f698807cd1d457983f67f452d0f93cb00082d976be4", func := "theodolite/theodolitelaw20.TrailBack", spec := "trailBack", inPlace := ["math/bits.Sub64", "math/bits.Add64", "internal/abi.NoEscape", "internal/bytealg.MakeNoZero"], unfollowed := true, recurses := true, named := ["math/bits.divideError", "math/bits.overflowError", "internal/strconv.uint64pow10", "math/bits.deBruijn32tab", "math/bits.deBruijn64tab"], apart := false, laid := [("math/bits.deBruijn32tab", laid_math_bits_deBruijn32tab), ("math/bits.deBruijn64tab", laid_math_bits_deBruijn64tab), ("internal/strconv.uint64pow10", laid_internal_strconv_uint64pow10)], narrowed := true }
def TrailBackUptoSaid : Prop := trailBackUptoRow.holds Tryz.pinned (OpenSpec.upto trailBackSpec)

/-- 'theodolitelaw20.TrailLits', WHERE WHAT IT READS IS OF BULK AT MOST 1048576: true; the input reads as it did. -/
def trailLitsUptoRow : OpenClaim := { program := "ytodeddappmfphaagreatdoor", sum := "21cb683b36972d5198737f698807cd1d457983f67f452d0f93cb00082d976be4", func := "theodolite/theodolitelaw20.TrailLits", spec := "trailLits", inPlace := ["math/bits.Sub64", "math/bits.Add64", "internal/abi.NoEscape", "internal/bytealg.MakeNoZero"], unfollowed := true, recurses := true, named := ["math/bits.divideError", "math/bits.overflowError", "internal/strconv.uint64pow10", "math/bits.deBruijn32tab", "math/bits.deBruijn64tab"], apart := false, laid := [("math/bits.deBruijn32tab", laid_math_bits_deBruijn32tab), ("math/bits.deBruijn64tab", laid_math_bits_deBruijn64tab), ("internal/strconv.uint64pow10", laid_internal_strconv_uint64pow10)], narrowed := true }
def TrailLitsUptoSaid : Prop := trailLitsUptoRow.holds Tryz.pinned (OpenSpec.upto trailLitsSpec)

/-- 'theodolitelaw20.TrailValues', WHERE WHAT IT READS IS OF BULK AT MOST 1048576: true; the input reads as it did. -/
def trailValuesUptoRow : OpenClaim := { program := "ytodeddappmfphaagreatdoor", sum := "21cb683b36972d5198737f698807cd1d457983f67f452d0f93cb00082d976be4", func := "theodolite/theodolitelaw20.TrailValues", spec := "trailValues", inPlace := ["math/bits.Sub64", "math/bits.Add64", "internal/abi.NoEscape", "internal/bytealg.MakeNoZero"], unfollowed := true, recurses := true, named := ["math/bits.divideError", "math/bits.overflowError", "internal/strconv.uint64pow10", "math/bits.deBruijn32tab", "math/bits.deBruijn64tab"], apart := false, laid := [("math/bits.deBruijn32tab", laid_math_bits_deBruijn32tab), ("math/bits.deBruijn64tab", laid_math_bits_deBruijn64tab), ("internal/strconv.uint64pow10", laid_internal_strconv_uint64pow10)], narrowed := true }
def TrailValuesUptoSaid : Prop := trailValuesUptoRow.holds Tryz.pinned (OpenSpec.upto trailValuesSpec)

/-- 'theodolitelaw25.LearnRow', WHERE WHAT IT READS IS OF BULK AT MOST 1048576: true; the input reads as it did. -/
def learnRowUptoRow : OpenClaim := { program := "ytodeddappmfphaagreatdoor", sum := "21cb683b36972d5198737f698807cd1d457983f67f452d0f93cb00082d976be4", func := "theodolite/theodolitelaw25.LearnRow", spec := "learnRow", inPlace := ["math/bits.Add64", "math/bits.Sub64", "internal/abi.NoEscape", "internal/bytealg.MakeNoZero"], unfollowed := true, recurses := true, named := ["math/bits.divideError", "math/bits.overflowError", "internal/strconv.uint64pow10", "math/bits.deBruijn32tab", "math/bits.deBruijn64tab"], apart := false, laid := [("math/bits.deBruijn32tab", laid_math_bits_deBruijn32tab), ("math/bits.deBruijn64tab", laid_math_bits_deBruijn64tab), ("internal/strconv.uint64pow10", laid_internal_strconv_uint64pow10)], narrowed := true }
def LearnRowUptoSaid : Prop := learnRowUptoRow.holds Tryz.pinned (OpenSpec.upto learnRowSpec)

/-- 'theodolitelaw25.LearnLevels', WHERE WHAT IT READS IS OF BULK AT MOST 1048576: true; the input reads as it did. -/
def learnLevelsUptoRow : OpenClaim := { program := "ytodeddappmfphaagreatdoor", sum := "21cb683b36972d5198737f698807cd1d457983f67f452d0f93cb00082d976be4", func := "theodolite/theodolitelaw25.LearnLevels", spec := "learnLevels", inPlace := ["math/bits.Add64", "math/bits.Sub64", "internal/abi.NoEscape", "internal/bytealg.MakeNoZero"], unfollowed := true, recurses := true, named := ["math/bits.divideError", "math/bits.overflowError", "internal/strconv.uint64pow10", "math/bits.deBruijn32tab", "math/bits.deBruijn64tab"], apart := false, laid := [("math/bits.deBruijn32tab", laid_math_bits_deBruijn32tab), ("math/bits.deBruijn64tab", laid_math_bits_deBruijn64tab), ("internal/strconv.uint64pow10", laid_internal_strconv_uint64pow10)], narrowed := true }
def LearnLevelsUptoSaid : Prop := learnLevelsUptoRow.holds Tryz.pinned (OpenSpec.upto learnLevelsSpec)

end Rows
end Go.Proofs.YtodeddappmfphaaGreatDoor
