/-
  NARROWER THAN 'FOR EVERY INPUT', by the rows' own cells (each row's printed sentence says how): PlanBounds: laid · PlanPicks: laid · PlanFewer: laid · PlanBoth: laid · PathParses: laid · PathLong: laid.
  DERIVED. THE GIVEN ROWS OF THIS SEAT. 6 by the template 'for every input the law returns true; each argument reads behind the call as it read before'; 0 by the template 'total and deterministic' (their statements: YtlomieopppndeaaDoorTotals.lean).
  GIVEN WITH THE SEED: the statements are not yours to turn. If you find one false, say at which input.
  Laid BY PROGRAM, IN A SANDBOX (cutbox-rows.mjs): the forced cells as the released guide's own fill.sh prints them over the translation d5c2471cf1cd1c4e… (all of the seat's roots in one cut). By AI agents, Wed Nov 11 2026. No macro, syntax, notation, axiom, sorry.
-/
import Derived.Test.YtlomieopppndeaaDoorChecked
import GoSem.PinnedTables
import GoSem.Claim
import GoSem.ClaimJoined
import GoSem.ClaimMapViews
import Derived.JoinedTies
import Derived.KernelRfl
namespace Go.Proofs.YtlomieopppndeaaDoor
/- THE CELL 'sum', in the pinned program and in every row, IS THE sha256 OF THE DUMP (.gsa) THAT YtlomieopppndeaaDoorProg.lean LOADS. Nothing in Lean hashes anything: it is a label: what it is worth is what the hold of that sum in a sandbox is worth. -/
noncomputable def Tryd.pinned : Pinned := { name := "ytlomieopppndeaadoor", sum := "d5c2471cf1cd1c4e3adf5af7eea4675f1b72d2ec4ecca8ce7bc9c9555b51c825", checked := Tryd.checked }
namespace Rows
def none {H : Type} : Left H := { results := [], args := [] }

/- WHAT THE LISTED PACKAGE-LEVEL VARIABLES READ AS WHEN THE CALL BEGINS. Each datum BY PROGRAM (the guide's laid-datum.mjs) off the statement by which the dump's own 'gosem.cut.vars' lays the variable. In a bare row this is a premise. The card (YtlomieopppndeaaDoorCards.lean) ties it to the program's text. -/
def laid_unicode_utf8_acceptRanges {H : Type} : DataW H := .agg [.agg [.lit (.int .u8 128), .lit (.int .u8 191)], .agg [.lit (.int .u8 160), .lit (.int .u8 191)], .agg [.lit (.int .u8 128), .lit (.int .u8 159)], .agg [.lit (.int .u8 144), .lit (.int .u8 191)], .agg [.lit (.int .u8 128), .lit (.int .u8 143)], .agg [.lit (.int .u8 0), .lit (.int .u8 0)], .agg [.lit (.int .u8 0), .lit (.int .u8 0)], .agg [.lit (.int .u8 0), .lit (.int .u8 0)], .agg [.lit (.int .u8 0), .lit (.int .u8 0)], .agg [.lit (.int .u8 0), .lit (.int .u8 0)], .agg [.lit (.int .u8 0), .lit (.int .u8 0)], .agg [.lit (.int .u8 0), .lit (.int .u8 0)], .agg [.lit (.int .u8 0), .lit (.int .u8 0)], .agg [.lit (.int .u8 0), .lit (.int .u8 0)], .agg [.lit (.int .u8 0), .lit (.int .u8 0)], .agg [.lit (.int .u8 0), .lit (.int .u8 0)]]
def laid_roundelay_filter_names {H : Type} : DataW H := .agg [.lit (.string [36, 97, 110, 100]), .lit (.string [36, 111, 114]), .lit (.string [36, 101, 113]), .lit (.string [36, 110, 101]), .lit (.string [36, 103, 116]), .lit (.string [36, 103, 116, 101]), .lit (.string [36, 108, 116]), .lit (.string [36, 108, 116, 101]), .lit (.string [36, 105, 110]), .lit (.string [36, 101, 120, 105, 115, 116, 115])]
def laid_roundelay_roundelaylaw03_words {H : Type} : DataW H := .agg [.lit (.string []), .lit (.string [97]), .lit (.string [98]), .lit (.string [97, 98]), .lit (.string [0]), .lit (.string [195, 169]), .lit (.string [122, 0]), .lit (.string [108, 111, 110, 103, 44, 32, 97, 110, 100, 32, 108, 111, 110, 103, 101, 114])]
def laid_roundelay_roundelaylaw03_names {H : Type} : DataW H := .agg [.lit (.string [97]), .lit (.string [98]), .lit (.string [99]), .lit (.string [110])]
def laid_roundelay_roundelaylaw16_tests {H : Type} : DataW H := .agg [.lit (.string [36, 101, 113]), .lit (.string [36, 101, 120, 105, 115, 116, 115]), .lit (.string [36, 103, 116]), .lit (.string [36, 103, 116, 101]), .lit (.string [36, 105, 110]), .lit (.string [36, 108, 116]), .lit (.string [36, 108, 116, 101]), .lit (.string [36, 110, 101])]
def laid_roundelay_roundelaylaw17_paths {H : Type} : DataW H := .agg [.lit (.string [97]), .lit (.string [97, 46, 98]), .lit (.string [98]), .lit (.string [99, 46, 48]), .lit (.string [110]), .lit (.string [120])]
/-- One of Go's own tables, pinned by name: the form's constant. -/
def laid_unicode_utf8_first : DataW Unit := Go.Pinned.utf8First
def laid_math_bits_deBruijn32tab {H : Type} : DataW H := .agg [.lit (.int .u8 0), .lit (.int .u8 1), .lit (.int .u8 28), .lit (.int .u8 2), .lit (.int .u8 29), .lit (.int .u8 14), .lit (.int .u8 24), .lit (.int .u8 3), .lit (.int .u8 30), .lit (.int .u8 22), .lit (.int .u8 20), .lit (.int .u8 15), .lit (.int .u8 25), .lit (.int .u8 17), .lit (.int .u8 4), .lit (.int .u8 8), .lit (.int .u8 31), .lit (.int .u8 27), .lit (.int .u8 13), .lit (.int .u8 23), .lit (.int .u8 21), .lit (.int .u8 19), .lit (.int .u8 16), .lit (.int .u8 7), .lit (.int .u8 26), .lit (.int .u8 12), .lit (.int .u8 18), .lit (.int .u8 6), .lit (.int .u8 11), .lit (.int .u8 5), .lit (.int .u8 10), .lit (.int .u8 9)]
def laid_math_bits_deBruijn64tab {H : Type} : DataW H := .agg [.lit (.int .u8 0), .lit (.int .u8 1), .lit (.int .u8 56), .lit (.int .u8 2), .lit (.int .u8 57), .lit (.int .u8 49), .lit (.int .u8 28), .lit (.int .u8 3), .lit (.int .u8 61), .lit (.int .u8 58), .lit (.int .u8 42), .lit (.int .u8 50), .lit (.int .u8 38), .lit (.int .u8 29), .lit (.int .u8 17), .lit (.int .u8 4), .lit (.int .u8 62), .lit (.int .u8 47), .lit (.int .u8 59), .lit (.int .u8 36), .lit (.int .u8 45), .lit (.int .u8 43), .lit (.int .u8 51), .lit (.int .u8 22), .lit (.int .u8 53), .lit (.int .u8 39), .lit (.int .u8 33), .lit (.int .u8 30), .lit (.int .u8 24), .lit (.int .u8 18), .lit (.int .u8 12), .lit (.int .u8 5), .lit (.int .u8 63), .lit (.int .u8 55), .lit (.int .u8 48), .lit (.int .u8 27), .lit (.int .u8 60), .lit (.int .u8 41), .lit (.int .u8 37), .lit (.int .u8 16), .lit (.int .u8 46), .lit (.int .u8 35), .lit (.int .u8 44), .lit (.int .u8 21), .lit (.int .u8 52), .lit (.int .u8 32), .lit (.int .u8 23), .lit (.int .u8 11), .lit (.int .u8 54), .lit (.int .u8 26), .lit (.int .u8 40), .lit (.int .u8 15), .lit (.int .u8 34), .lit (.int .u8 20), .lit (.int .u8 31), .lit (.int .u8 10), .lit (.int .u8 25), .lit (.int .u8 14), .lit (.int .u8 19), .lit (.int .u8 9), .lit (.int .u8 13), .lit (.int .u8 8), .lit (.int .u8 7), .lit (.int .u8 6)]
def laid_internal_strconv_uint64pow10 {H : Type} : DataW H := .agg [.lit (.int .u64 1), .lit (.int .u64 10), .lit (.int .u64 100), .lit (.int .u64 1000), .lit (.int .u64 10000), .lit (.int .u64 100000), .lit (.int .u64 1000000), .lit (.int .u64 10000000), .lit (.int .u64 100000000), .lit (.int .u64 1000000000), .lit (.int .u64 10000000000), .lit (.int .u64 100000000000), .lit (.int .u64 1000000000000), .lit (.int .u64 10000000000000), .lit (.int .u64 100000000000000), .lit (.int .u64 1000000000000000), .lit (.int .u64 10000000000000000), .lit (.int .u64 100000000000000000), .lit (.int .u64 1000000000000000000), .lit (.int .u64 10000000000000000000)]
def laid_errors_errorType {H : Type} : DataW H := .iface "internal/reflectlite.rtype" (.agg [.ptr (.lit (.string [101, 114, 114, 111, 114]))])
def laid_strconv_ErrRange {H : Type} : DataW H := .iface "*errors.errorString" (.ptr (.agg [.lit (.string [118, 97, 108, 117, 101, 32, 111, 117, 116, 32, 111, 102, 32, 114, 97, 110, 103, 101])]))
def laid_strconv_ErrSyntax {H : Type} : DataW H := .iface "*errors.errorString" (.ptr (.agg [.lit (.string [105, 110, 118, 97, 108, 105, 100, 32, 115, 121, 110, 116, 97, 120])]))

/-- 'roundelaylaw17.PlanBounds': WHATEVER THE INPUT: true; the input reads as it did. -/
def planBoundsSpec : ChangeSpec := { name := "planBounds", fn := fun _ => fun
  | [d1, d2] => { results := [.lit (.bool true)], args := [d1, d2] }
  | _ => none }
def planBoundsRow : OpenClaim := { program := "ytlomieopppndeaadoor", sum := "d5c2471cf1cd1c4e3adf5af7eea4675f1b72d2ec4ecca8ce7bc9c9555b51c825", func := "roundelay/roundelaylaw17.PlanBounds", spec := "planBounds", inPlace := ["internal/abi.NoEscape", "internal/bytealg.CountString", "internal/bytealg.IndexByteString", "internal/bytealg.IndexString", "internal/bytealg.MakeNoZero", "internal/reflectlite.TypeOf"], unfollowed := true, recurses := true, named := ["roundelay/roundelaylaw17.paths", "internal/bytealg.MaxLen", "unicode/utf8.first", "unicode/utf8.acceptRanges", "roundelay/roundelaylaw03.words", "roundelay/roundelaylaw03.names", "roundelay/roundelaylaw16.tests", "roundelay/filter.names"], apart := false, laid := [("unicode/utf8.acceptRanges", laid_unicode_utf8_acceptRanges), ("roundelay/filter.names", laid_roundelay_filter_names), ("roundelay/roundelaylaw03.words", laid_roundelay_roundelaylaw03_words), ("roundelay/roundelaylaw03.names", laid_roundelay_roundelaylaw03_names), ("roundelay/roundelaylaw16.tests", laid_roundelay_roundelaylaw16_tests), ("roundelay/roundelaylaw17.paths", laid_roundelay_roundelaylaw17_paths), ("unicode/utf8.first", laid_unicode_utf8_first)] }
def PlanBoundsSaid : Prop := planBoundsRow.holds Tryd.pinned (OpenSpec.ofChange planBoundsSpec)

/-- ITS FALSE NEIGHBOUR: 'it returns false'. Refute it at one input. -/
def planBoundsWrong : ChangeSpec := { name := "planBounds", fn := fun _ => fun
  | [d1, d2] => { results := [.lit (.bool false)], args := [d1, d2] }
  | _ => none }
def PlanBoundsWrongFalsely : Prop := planBoundsRow.holds Tryd.pinned (OpenSpec.ofChange planBoundsWrong)

/-- 'roundelaylaw17.PlanPicks': WHATEVER THE INPUT: true; the input reads as it did. -/
def planPicksSpec : ChangeSpec := { name := "planPicks", fn := fun _ => fun
  | [d1, d2] => { results := [.lit (.bool true)], args := [d1, d2] }
  | _ => none }
def planPicksRow : OpenClaim := { program := "ytlomieopppndeaadoor", sum := "d5c2471cf1cd1c4e3adf5af7eea4675f1b72d2ec4ecca8ce7bc9c9555b51c825", func := "roundelay/roundelaylaw17.PlanPicks", spec := "planPicks", inPlace := ["internal/abi.NoEscape", "internal/bytealg.CountString", "internal/bytealg.IndexByteString", "internal/bytealg.IndexString", "internal/bytealg.MakeNoZero", "internal/reflectlite.TypeOf"], unfollowed := true, recurses := true, named := ["internal/bytealg.MaxLen", "unicode/utf8.first", "unicode/utf8.acceptRanges", "roundelay/roundelaylaw03.words", "roundelay/roundelaylaw03.names", "roundelay/roundelaylaw16.tests", "roundelay/filter.names", "roundelay/roundelaylaw17.paths"], apart := false, laid := [("unicode/utf8.acceptRanges", laid_unicode_utf8_acceptRanges), ("roundelay/filter.names", laid_roundelay_filter_names), ("roundelay/roundelaylaw03.words", laid_roundelay_roundelaylaw03_words), ("roundelay/roundelaylaw03.names", laid_roundelay_roundelaylaw03_names), ("roundelay/roundelaylaw16.tests", laid_roundelay_roundelaylaw16_tests), ("roundelay/roundelaylaw17.paths", laid_roundelay_roundelaylaw17_paths), ("unicode/utf8.first", laid_unicode_utf8_first)] }
def PlanPicksSaid : Prop := planPicksRow.holds Tryd.pinned (OpenSpec.ofChange planPicksSpec)

/-- ITS FALSE NEIGHBOUR: 'it returns false'. Refute it at one input. -/
def planPicksWrong : ChangeSpec := { name := "planPicks", fn := fun _ => fun
  | [d1, d2] => { results := [.lit (.bool false)], args := [d1, d2] }
  | _ => none }
def PlanPicksWrongFalsely : Prop := planPicksRow.holds Tryd.pinned (OpenSpec.ofChange planPicksWrong)

/-- 'roundelaylaw17.PlanFewer': WHATEVER THE INPUT: true; the input reads as it did. -/
def planFewerSpec : ChangeSpec := { name := "planFewer", fn := fun _ => fun
  | [d1, d2, d3] => { results := [.lit (.bool true)], args := [d1, d2, d3] }
  | _ => none }
def planFewerRow : OpenClaim := { program := "ytlomieopppndeaadoor", sum := "d5c2471cf1cd1c4e3adf5af7eea4675f1b72d2ec4ecca8ce7bc9c9555b51c825", func := "roundelay/roundelaylaw17.PlanFewer", spec := "planFewer", inPlace := ["internal/abi.NoEscape", "internal/bytealg.CountString", "internal/bytealg.IndexByteString", "internal/bytealg.IndexString", "internal/bytealg.MakeNoZero", "internal/reflectlite.TypeOf"], unfollowed := true, recurses := true, named := ["internal/bytealg.MaxLen", "unicode/utf8.first", "unicode/utf8.acceptRanges", "roundelay/roundelaylaw03.words", "roundelay/roundelaylaw03.names", "roundelay/roundelaylaw16.tests", "roundelay/filter.names", "roundelay/roundelaylaw17.paths"], apart := false, laid := [("unicode/utf8.acceptRanges", laid_unicode_utf8_acceptRanges), ("roundelay/filter.names", laid_roundelay_filter_names), ("roundelay/roundelaylaw03.words", laid_roundelay_roundelaylaw03_words), ("roundelay/roundelaylaw03.names", laid_roundelay_roundelaylaw03_names), ("roundelay/roundelaylaw16.tests", laid_roundelay_roundelaylaw16_tests), ("roundelay/roundelaylaw17.paths", laid_roundelay_roundelaylaw17_paths), ("unicode/utf8.first", laid_unicode_utf8_first)] }
def PlanFewerSaid : Prop := planFewerRow.holds Tryd.pinned (OpenSpec.ofChange planFewerSpec)

/-- ITS FALSE NEIGHBOUR: 'it returns false'. Refute it at one input. -/
def planFewerWrong : ChangeSpec := { name := "planFewer", fn := fun _ => fun
  | [d1, d2, d3] => { results := [.lit (.bool false)], args := [d1, d2, d3] }
  | _ => none }
def PlanFewerWrongFalsely : Prop := planFewerRow.holds Tryd.pinned (OpenSpec.ofChange planFewerWrong)

/-- 'roundelaylaw17.PlanBoth': WHATEVER THE INPUT: true; the input reads as it did. -/
def planBothSpec : ChangeSpec := { name := "planBoth", fn := fun _ => fun
  | [d1, d2, d3] => { results := [.lit (.bool true)], args := [d1, d2, d3] }
  | _ => none }
def planBothRow : OpenClaim := { program := "ytlomieopppndeaadoor", sum := "d5c2471cf1cd1c4e3adf5af7eea4675f1b72d2ec4ecca8ce7bc9c9555b51c825", func := "roundelay/roundelaylaw17.PlanBoth", spec := "planBoth", inPlace := ["internal/abi.NoEscape", "internal/bytealg.CountString", "internal/bytealg.IndexByteString", "internal/bytealg.IndexString", "internal/bytealg.MakeNoZero", "internal/reflectlite.TypeOf"], unfollowed := true, recurses := true, named := ["roundelay/roundelaylaw17.paths", "internal/bytealg.MaxLen", "unicode/utf8.first", "unicode/utf8.acceptRanges", "roundelay/roundelaylaw03.words", "roundelay/roundelaylaw03.names", "roundelay/roundelaylaw16.tests", "roundelay/filter.names"], apart := false, laid := [("unicode/utf8.acceptRanges", laid_unicode_utf8_acceptRanges), ("roundelay/filter.names", laid_roundelay_filter_names), ("roundelay/roundelaylaw03.words", laid_roundelay_roundelaylaw03_words), ("roundelay/roundelaylaw03.names", laid_roundelay_roundelaylaw03_names), ("roundelay/roundelaylaw16.tests", laid_roundelay_roundelaylaw16_tests), ("roundelay/roundelaylaw17.paths", laid_roundelay_roundelaylaw17_paths), ("unicode/utf8.first", laid_unicode_utf8_first)] }
def PlanBothSaid : Prop := planBothRow.holds Tryd.pinned (OpenSpec.ofChange planBothSpec)

/-- ITS FALSE NEIGHBOUR: 'it returns false'. Refute it at one input. -/
def planBothWrong : ChangeSpec := { name := "planBoth", fn := fun _ => fun
  | [d1, d2, d3] => { results := [.lit (.bool false)], args := [d1, d2, d3] }
  | _ => none }
def PlanBothWrongFalsely : Prop := planBothRow.holds Tryd.pinned (OpenSpec.ofChange planBothWrong)

/-- 'roundelaylaw06.PathParses': WHATEVER THE INPUT: true; the input reads as it did. -/
def pathParsesSpec : ChangeSpec := { name := "pathParses", fn := fun _ => fun
  | [d] => { results := [.lit (.bool true)], args := [d] }
  | _ => none }
def pathParsesRow : OpenClaim := { program := "ytlomieopppndeaadoor", sum := "d5c2471cf1cd1c4e3adf5af7eea4675f1b72d2ec4ecca8ce7bc9c9555b51c825", func := "roundelay/roundelaylaw06.PathParses", spec := "pathParses", inPlace := ["internal/bytealg.CountString", "internal/bytealg.IndexByteString", "internal/bytealg.IndexString", "internal/reflectlite.TypeOf", "internal/reflectlite.ValueOf", "(internal/reflectlite.Value).Type", "(internal/reflectlite.Value).IsNil", "(internal/reflectlite.Value).Elem", "(internal/reflectlite.Value).Set"], unfollowed := true, recurses := true, named := ["unicode/utf8.first", "unicode/utf8.acceptRanges", "internal/bytealg.MaxLen", "strconv.ErrSyntax", "strconv.ErrRange", "internal/strconv.uint64pow10", "math/bits.deBruijn32tab", "math/bits.deBruijn64tab", "errors.errorType"], apart := false, laid := [("math/bits.deBruijn32tab", laid_math_bits_deBruijn32tab), ("math/bits.deBruijn64tab", laid_math_bits_deBruijn64tab), ("internal/strconv.uint64pow10", laid_internal_strconv_uint64pow10), ("unicode/utf8.acceptRanges", laid_unicode_utf8_acceptRanges), ("errors.errorType", laid_errors_errorType), ("strconv.ErrRange", laid_strconv_ErrRange), ("strconv.ErrSyntax", laid_strconv_ErrSyntax), ("unicode/utf8.first", laid_unicode_utf8_first)] }
def PathParsesSaid : Prop := pathParsesRow.holds Tryd.pinned (OpenSpec.ofChange pathParsesSpec)

/-- ITS FALSE NEIGHBOUR: 'it returns false'. Refute it at one input. -/
def pathParsesWrong : ChangeSpec := { name := "pathParses", fn := fun _ => fun
  | [d] => { results := [.lit (.bool false)], args := [d] }
  | _ => none }
def PathParsesWrongFalsely : Prop := pathParsesRow.holds Tryd.pinned (OpenSpec.ofChange pathParsesWrong)

/-- 'roundelaylaw06.PathLong': WHATEVER THE INPUT: true; the input reads as it did. -/
def pathLongSpec : ChangeSpec := { name := "pathLong", fn := fun _ => fun
  | [d1, d2, d3] => { results := [.lit (.bool true)], args := [d1, d2, d3] }
  | _ => none }
def pathLongRow : OpenClaim := { program := "ytlomieopppndeaadoor", sum := "d5c2471cf1cd1c4e3adf5af7eea4675f1b72d2ec4ecca8ce7bc9c9555b51c825", func := "roundelay/roundelaylaw06.PathLong", spec := "pathLong", inPlace := ["internal/bytealg.CountString", "internal/bytealg.IndexByteString", "internal/bytealg.IndexString", "internal/reflectlite.TypeOf", "internal/reflectlite.ValueOf", "(internal/reflectlite.Value).Type", "(internal/reflectlite.Value).IsNil", "(internal/reflectlite.Value).Elem", "(internal/reflectlite.Value).Set"], unfollowed := true, recurses := true, named := ["unicode/utf8.first", "unicode/utf8.acceptRanges", "internal/bytealg.MaxLen", "strconv.ErrSyntax", "strconv.ErrRange", "internal/strconv.uint64pow10", "math/bits.deBruijn32tab", "math/bits.deBruijn64tab", "errors.errorType"], apart := false, laid := [("math/bits.deBruijn32tab", laid_math_bits_deBruijn32tab), ("math/bits.deBruijn64tab", laid_math_bits_deBruijn64tab), ("internal/strconv.uint64pow10", laid_internal_strconv_uint64pow10), ("unicode/utf8.acceptRanges", laid_unicode_utf8_acceptRanges), ("errors.errorType", laid_errors_errorType), ("strconv.ErrRange", laid_strconv_ErrRange), ("strconv.ErrSyntax", laid_strconv_ErrSyntax), ("unicode/utf8.first", laid_unicode_utf8_first)] }
def PathLongSaid : Prop := pathLongRow.holds Tryd.pinned (OpenSpec.ofChange pathLongSpec)

/-- ITS FALSE NEIGHBOUR: 'it returns false'. Refute it at one input. -/
def pathLongWrong : ChangeSpec := { name := "pathLong", fn := fun _ => fun
  | [d1, d2, d3] => { results := [.lit (.bool false)], args := [d1, d2, d3] }
  | _ => none }
def PathLongWrongFalsely : Prop := pathLongRow.holds Tryd.pinned (OpenSpec.ofChange pathLongWrong)

/- THE SECOND FORM. 'bulk': how many values and letters a reading holds, each counted each time it is reached (what is shared counts as often as it is met; a slice's spare places count too). A statement '..UptoSaid' is the law's where the arguments, and the package variables that the reading takes, are together of bulk at most 1048576: NARROWER than '..Said'. Prove '..Said' where nothing that the law and all that it calls make is longer than what came in: it says more and counts as full. Else prove '..UptoSaid'. A law counts once. -/
mutual
def uptoBulk {H : Type} : DataW H → Nat
  | .lit (.string bytes) => bytes.length + 1
  | .lit _ => 1
  | .nil => 1
  | .ptr d => uptoBulk d + 1
  | .slice elems spare => uptoBulkAll elems + uptoBulkAll spare + 1
  | .agg parts => uptoBulkAll parts + 1
  | .iface _ d => uptoBulk d + 1
  | .map entries => uptoBulkEntries entries + 1
  | .held _ => 1
def uptoBulkAll {H : Type} : List (DataW H) → Nat
  | [] => 0
  | d :: r => uptoBulk d + uptoBulkAll r
def uptoBulkEntries {H : Type} : List (Lit × DataW H) → Nat
  | [] => 0
  | x :: r => uptoBulkEntry x + uptoBulkEntries r
def uptoBulkEntry {H : Type} : Lit × DataW H → Nat
  | (.string bytes, d) => bytes.length + uptoBulk d + 1
  | (_, d) => uptoBulk d + 1
 end
def uptoSmall : (H : Type) → List (DataW H) → Bool := fun _ ds => decide (uptoBulkAll ds ≤ 1048576)
def OpenSpec.upto (s : _root_.Go.ChangeSpec) : _root_.Go.OpenSpec := { _root_.Go.OpenSpec.ofChange s with cond := some uptoSmall }

/-- 'roundelaylaw17.PlanBounds', WHERE WHAT IT READS IS OF BULK AT MOST 1048576: true; the input reads as it did. -/
def planBoundsUptoRow : OpenClaim := { program := "ytlomieopppndeaadoor", sum := "d5c2471cf1cd1c4e3adf5af7eea4675f1b72d2ec4ecca8ce7bc9c9555b51c825", func := "roundelay/roundelaylaw17.PlanBounds", spec := "planBounds", inPlace := ["internal/abi.NoEscape", "internal/bytealg.CountString", "internal/bytealg.IndexByteString", "internal/bytealg.IndexString", "internal/bytealg.MakeNoZero", "internal/reflectlite.TypeOf"], unfollowed := true, recurses := true, named := ["roundelay/roundelaylaw17.paths", "internal/bytealg.MaxLen", "unicode/utf8.first", "unicode/utf8.acceptRanges", "roundelay/roundelaylaw03.words", "roundelay/roundelaylaw03.names", "roundelay/roundelaylaw16.tests", "roundelay/filter.names"], apart := false, laid := [("unicode/utf8.acceptRanges", laid_unicode_utf8_acceptRanges), ("roundelay/filter.names", laid_roundelay_filter_names), ("roundelay/roundelaylaw03.words", laid_roundelay_roundelaylaw03_words), ("roundelay/roundelaylaw03.names", laid_roundelay_roundelaylaw03_names), ("roundelay/roundelaylaw16.tests", laid_roundelay_roundelaylaw16_tests), ("roundelay/roundelaylaw17.paths", laid_roundelay_roundelaylaw17_paths), ("unicode/utf8.first", laid_unicode_utf8_first)], narrowed := true }
def PlanBoundsUptoSaid : Prop := planBoundsUptoRow.holds Tryd.pinned (OpenSpec.upto planBoundsSpec)

/-- 'roundelaylaw17.PlanPicks', WHERE WHAT IT READS IS OF BULK AT MOST 1048576: true; the input reads as it did. -/
def planPicksUptoRow : OpenClaim := { program := "ytlomieopppndeaadoor", sum := "d5c2471cf1cd1c4e3adf5af7eea4675f1b72d2ec4ecca8ce7bc9c9555b51c825", func := "roundelay/roundelaylaw17.PlanPicks", spec := "planPicks", inPlace := ["internal/abi.NoEscape", "internal/bytealg.CountString", "internal/bytealg.IndexByteString", "internal/bytealg.IndexString", "internal/bytealg.MakeNoZero", "internal/reflectlite.TypeOf"], unfollowed := true, recurses := true, named := ["internal/bytealg.MaxLen", "unicode/utf8.first", "unicode/utf8.acceptRanges", "roundelay/roundelaylaw03.words", "roundelay/roundelaylaw03.names", "roundelay/roundelaylaw16.tests", "roundelay/filter.names", "roundelay/roundelaylaw17.paths"], apart := false, laid := [("unicode/utf8.acceptRanges", laid_unicode_utf8_acceptRanges), ("roundelay/filter.names", laid_roundelay_filter_names), ("roundelay/roundelaylaw03.words", laid_roundelay_roundelaylaw03_words), ("roundelay/roundelaylaw03.names", laid_roundelay_roundelaylaw03_names), ("roundelay/roundelaylaw16.tests", laid_roundelay_roundelaylaw16_tests), ("roundelay/roundelaylaw17.paths", laid_roundelay_roundelaylaw17_paths), ("unicode/utf8.first", laid_unicode_utf8_first)], narrowed := true }
def PlanPicksUptoSaid : Prop := planPicksUptoRow.holds Tryd.pinned (OpenSpec.upto planPicksSpec)

/-- 'roundelaylaw17.PlanFewer', WHERE WHAT IT READS IS OF BULK AT MOST 1048576: true; the input reads as it did. -/
def planFewerUptoRow : OpenClaim := { program := "ytlomieopppndeaadoor", sum := "d5c2471cf1cd1c4e3adf5af7eea4675f1b72d2ec4ecca8ce7bc9c9555b51c825", func := "roundelay/roundelaylaw17.PlanFewer", spec := "planFewer", inPlace := ["internal/abi.NoEscape", "internal/bytealg.CountString", "internal/bytealg.IndexByteString", "internal/bytealg.IndexString", "internal/bytealg.MakeNoZero", "internal/reflectlite.TypeOf"], unfollowed := true, recurses := true, named := ["internal/bytealg.MaxLen", "unicode/utf8.first", "unicode/utf8.acceptRanges", "roundelay/roundelaylaw03.words", "roundelay/roundelaylaw03.names", "roundelay/roundelaylaw16.tests", "roundelay/filter.names", "roundelay/roundelaylaw17.paths"], apart := false, laid := [("unicode/utf8.acceptRanges", laid_unicode_utf8_acceptRanges), ("roundelay/filter.names", laid_roundelay_filter_names), ("roundelay/roundelaylaw03.words", laid_roundelay_roundelaylaw03_words), ("roundelay/roundelaylaw03.names", laid_roundelay_roundelaylaw03_names), ("roundelay/roundelaylaw16.tests", laid_roundelay_roundelaylaw16_tests), ("roundelay/roundelaylaw17.paths", laid_roundelay_roundelaylaw17_paths), ("unicode/utf8.first", laid_unicode_utf8_first)], narrowed := true }
def PlanFewerUptoSaid : Prop := planFewerUptoRow.holds Tryd.pinned (OpenSpec.upto planFewerSpec)

/-- 'roundelaylaw17.PlanBoth', WHERE WHAT IT READS IS OF BULK AT MOST 1048576: true; the input reads as it did. -/
def planBothUptoRow : OpenClaim := { program := "ytlomieopppndeaadoor", sum := "d5c2471cf1cd1c4e3adf5af7eea4675f1b72d2ec4ecca8ce7bc9c9555b51c825", func := "roundelay/roundelaylaw17.PlanBoth", spec := "planBoth", inPlace := ["internal/abi.NoEscape", "internal/bytealg.CountString", "internal/bytealg.IndexByteString", "internal/bytealg.IndexString", "internal/bytealg.MakeNoZero", "internal/reflectlite.TypeOf"], unfollowed := true, recurses := true, named := ["roundelay/roundelaylaw17.paths", "internal/bytealg.MaxLen", "unicode/utf8.first", "unicode/utf8.acceptRanges", "roundelay/roundelaylaw03.words", "roundelay/roundelaylaw03.names", "roundelay/roundelaylaw16.tests", "roundelay/filter.names"], apart := false, laid := [("unicode/utf8.acceptRanges", laid_unicode_utf8_acceptRanges), ("roundelay/filter.names", laid_roundelay_filter_names), ("roundelay/roundelaylaw03.words", laid_roundelay_roundelaylaw03_words), ("roundelay/roundelaylaw03.names", laid_roundelay_roundelaylaw03_names), ("roundelay/roundelaylaw16.tests", laid_roundelay_roundelaylaw16_tests), ("roundelay/roundelaylaw17.paths", laid_roundelay_roundelaylaw17_paths), ("unicode/utf8.first", laid_unicode_utf8_first)], narrowed := true }
def PlanBothUptoSaid : Prop := planBothUptoRow.holds Tryd.pinned (OpenSpec.upto planBothSpec)

/-- 'roundelaylaw06.PathParses', WHERE WHAT IT READS IS OF BULK AT MOST 1048576: true; the input reads as it did. -/
def pathParsesUptoRow : OpenClaim := { program := "ytlomieopppndeaadoor", sum := "d5c2471cf1cd1c4e3adf5af7eea4675f1b72d2ec4ecca8ce7bc9c9555b51c825", func := "roundelay/roundelaylaw06.PathParses", spec := "pathParses", inPlace := ["internal/bytealg.CountString", "internal/bytealg.IndexByteString", "internal/bytealg.IndexString", "internal/reflectlite.TypeOf", "internal/reflectlite.ValueOf", "(internal/reflectlite.Value).Type", "(internal/reflectlite.Value).IsNil", "(internal/reflectlite.Value).Elem", "(internal/reflectlite.Value).Set"], unfollowed := true, recurses := true, named := ["unicode/utf8.first", "unicode/utf8.acceptRanges", "internal/bytealg.MaxLen", "strconv.ErrSyntax", "strconv.ErrRange", "internal/strconv.uint64pow10", "math/bits.deBruijn32tab", "math/bits.deBruijn64tab", "errors.errorType"], apart := false, laid := [("math/bits.deBruijn32tab", laid_math_bits_deBruijn32tab), ("math/bits.deBruijn64tab", laid_math_bits_deBruijn64tab), ("internal/strconv.uint64pow10", laid_internal_strconv_uint64pow10), ("unicode/utf8.acceptRanges", laid_unicode_utf8_acceptRanges), ("errors.errorType", laid_errors_errorType), ("strconv.ErrRange", laid_strconv_ErrRange), ("strconv.ErrSyntax", laid_strconv_ErrSyntax), ("unicode/utf8.first", laid_unicode_utf8_first)], narrowed := true }
def PathParsesUptoSaid : Prop := pathParsesUptoRow.holds Tryd.pinned (OpenSpec.upto pathParsesSpec)

/-- 'roundelaylaw06.PathLong', WHERE WHAT IT READS IS OF BULK AT MOST 1048576: true; the input reads as it did. -/
def pathLongUptoRow : OpenClaim := { program := "ytlomieopppndeaadoor", sum := "d5c2471cf1cd1c4e3adf5af7eea4675f1b72d2ec4ecca8ce7bc9c9555b51c825", func := "roundelay/roundelaylaw06.PathLong", spec := "pathLong", inPlace := ["internal/bytealg.CountString", "internal/bytealg.IndexByteString", "internal/bytealg.IndexString", "internal/reflectlite.TypeOf", "internal/reflectlite.ValueOf", "(internal/reflectlite.Value).Type", "(internal/reflectlite.Value).IsNil", "(internal/reflectlite.Value).Elem", "(internal/reflectlite.Value).Set"], unfollowed := true, recurses := true, named := ["unicode/utf8.first", "unicode/utf8.acceptRanges", "internal/bytealg.MaxLen", "strconv.ErrSyntax", "strconv.ErrRange", "internal/strconv.uint64pow10", "math/bits.deBruijn32tab", "math/bits.deBruijn64tab", "errors.errorType"], apart := false, laid := [("math/bits.deBruijn32tab", laid_math_bits_deBruijn32tab), ("math/bits.deBruijn64tab", laid_math_bits_deBruijn64tab), ("internal/strconv.uint64pow10", laid_internal_strconv_uint64pow10), ("unicode/utf8.acceptRanges", laid_unicode_utf8_acceptRanges), ("errors.errorType", laid_errors_errorType), ("strconv.ErrRange", laid_strconv_ErrRange), ("strconv.ErrSyntax", laid_strconv_ErrSyntax), ("unicode/utf8.first", laid_unicode_utf8_first)], narrowed := true }
def PathLongUptoSaid : Prop := pathLongUptoRow.holds Tryd.pinned (OpenSpec.upto pathLongSpec)

end Rows
end Go.Proofs.YtlomieopppndeaaDoor
