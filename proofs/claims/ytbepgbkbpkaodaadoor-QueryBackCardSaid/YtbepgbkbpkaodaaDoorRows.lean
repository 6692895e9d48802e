/-
  NARROWER THAN 'FOR EVERY INPUT', by the rows' own cells (each row's printed sentence says how): QueryBlanks: laid · QueryCase: laid · QueryNests: laid · QueryShows: loops, laid · QueryBack: loops, laid.
  DERIVED. THE GIVEN ROWS OF THIS SEAT. 5 by the template 'for every input the law returns true; each argument reads behind the call as it read before'; 0 by the template 'total and deterministic' (their statements: YtbepgbkbpkaodaaDoorTotals.lean).
  GIVEN WITH THE SEED: the statements are not yours to turn. If you find one false, say at which input.
  Laid BY PROGRAM, IN A SANDBOX (cutbox-rows.mjs): the forced cells as the released guide's own fill.sh prints them over the translation 228af56fa8f22b56… (all of the seat's roots in one cut). By AI agents, Wed Nov 11 2026. No macro, syntax, notation, axiom, sorry.
-/
import Derived.Test.YtbepgbkbpkaodaaDoorChecked
import GoSem.Claim
import GoSem.ClaimJoined
import GoSem.ClaimMapViews
import Derived.JoinedTies
import Derived.KernelRfl
namespace Go.Proofs.YtbepgbkbpkaodaaDoor
/- THE CELL 'sum', in the pinned program and in every row, IS THE sha256 OF THE DUMP (.gsa) THAT YtbepgbkbpkaodaaDoorProg.lean LOADS. Nothing in Lean hashes anything: it is a label: what it is worth is what the hold of that sum in a sandbox is worth. -/
noncomputable def Tryd.pinned : Pinned := { name := "ytbepgbkbpkaodaadoor", sum := "228af56fa8f22b56a17d406d55c60f193207e0c93ee442fe09b290dedee3b612", checked := Tryd.checked }
namespace Rows
def none {H : Type} : Left H := { results := [], args := [] }

/- WHAT THE LISTED PACKAGE-LEVEL VARIABLES READ AS WHEN THE CALL BEGINS. Each datum BY PROGRAM (the guide's laid-datum.mjs) off the statement by which the dump's own 'gosem.cut.vars' lays the variable. In a bare row this is a premise. The card (YtbepgbkbpkaodaaDoorCards.lean) ties it to the program's text. -/
def laid_plover_fold_letters {H : Type} : DataW H := .agg [.agg [.lit (.int .i32 65), .lit (.int .i32 90)], .agg [.lit (.int .i32 97), .lit (.int .i32 122)], .agg [.lit (.int .i32 192), .lit (.int .i32 214)], .agg [.lit (.int .i32 216), .lit (.int .i32 246)], .agg [.lit (.int .i32 248), .lit (.int .i32 591)], .agg [.lit (.int .i32 902), .lit (.int .i32 902)], .agg [.lit (.int .i32 904), .lit (.int .i32 906)], .agg [.lit (.int .i32 908), .lit (.int .i32 908)], .agg [.lit (.int .i32 910), .lit (.int .i32 929)], .agg [.lit (.int .i32 931), .lit (.int .i32 974)], .agg [.lit (.int .i32 1024), .lit (.int .i32 1153)], .agg [.lit (.int .i32 1162), .lit (.int .i32 1327)], .agg [.lit (.int .i32 1488), .lit (.int .i32 1514)]]
def laid_plover_fold_high {H : Type} : DataW H := .agg [.agg [.lit (.int .i32 19968), .lit (.int .i32 40959)], .agg [.lit (.int .i32 44032), .lit (.int .i32 55203)]]
def laid_plover_fold_moves {H : Type} : DataW H := .agg [.agg [.agg [.lit (.int .i32 65), .lit (.int .i32 90)], .lit (.int .i64 1), .lit (.int .i32 32)], .agg [.agg [.lit (.int .i32 192), .lit (.int .i32 214)], .lit (.int .i64 1), .lit (.int .i32 32)], .agg [.agg [.lit (.int .i32 216), .lit (.int .i32 222)], .lit (.int .i64 1), .lit (.int .i32 32)], .agg [.agg [.lit (.int .i32 256), .lit (.int .i32 311)], .lit (.int .i64 2), .lit (.int .i32 1)], .agg [.agg [.lit (.int .i32 313), .lit (.int .i32 328)], .lit (.int .i64 3), .lit (.int .i32 1)], .agg [.agg [.lit (.int .i32 330), .lit (.int .i32 375)], .lit (.int .i64 2), .lit (.int .i32 1)], .agg [.agg [.lit (.int .i32 376), .lit (.int .i32 376)], .lit (.int .i64 1), .lit (.int .i32 (-121))], .agg [.agg [.lit (.int .i32 377), .lit (.int .i32 382)], .lit (.int .i64 3), .lit (.int .i32 1)], .agg [.agg [.lit (.int .i32 383), .lit (.int .i32 383)], .lit (.int .i64 1), .lit (.int .i32 (-268))], .agg [.agg [.lit (.int .i32 902), .lit (.int .i32 902)], .lit (.int .i64 1), .lit (.int .i32 38)], .agg [.agg [.lit (.int .i32 904), .lit (.int .i32 906)], .lit (.int .i64 1), .lit (.int .i32 37)], .agg [.agg [.lit (.int .i32 908), .lit (.int .i32 908)], .lit (.int .i64 1), .lit (.int .i32 64)], .agg [.agg [.lit (.int .i32 910), .lit (.int .i32 911)], .lit (.int .i64 1), .lit (.int .i32 63)], .agg [.agg [.lit (.int .i32 913), .lit (.int .i32 929)], .lit (.int .i64 1), .lit (.int .i32 32)], .agg [.agg [.lit (.int .i32 931), .lit (.int .i32 939)], .lit (.int .i64 1), .lit (.int .i32 32)], .agg [.agg [.lit (.int .i32 962), .lit (.int .i32 962)], .lit (.int .i64 1), .lit (.int .i32 1)], .agg [.agg [.lit (.int .i32 1024), .lit (.int .i32 1039)], .lit (.int .i64 1), .lit (.int .i32 80)], .agg [.agg [.lit (.int .i32 1040), .lit (.int .i32 1071)], .lit (.int .i64 1), .lit (.int .i32 32)], .agg [.agg [.lit (.int .i32 1120), .lit (.int .i32 1153)], .lit (.int .i64 2), .lit (.int .i32 1)], .agg [.agg [.lit (.int .i32 1162), .lit (.int .i32 1215)], .lit (.int .i64 2), .lit (.int .i32 1)], .agg [.agg [.lit (.int .i32 1232), .lit (.int .i32 1327)], .lit (.int .i64 2), .lit (.int .i32 1)], .agg [.agg [.lit (.int .i32 1632), .lit (.int .i32 1641)], .lit (.int .i64 1), .lit (.int .i32 (-1584))], .agg [.agg [.lit (.int .i32 0), .lit (.int .i32 0)], .lit (.int .i64 0), .lit (.int .i32 0)], .agg [.agg [.lit (.int .i32 0), .lit (.int .i32 0)], .lit (.int .i64 0), .lit (.int .i32 0)]]
def laid_math_bits_deBruijn32tab {H : Type} : DataW H := .agg [.lit (.int .u8 0), .lit (.int .u8 1), .lit (.int .u8 28), .lit (.int .u8 2), .lit (.int .u8 29), .lit (.int .u8 14), .lit (.int .u8 24), .lit (.int .u8 3), .lit (.int .u8 30), .lit (.int .u8 22), .lit (.int .u8 20), .lit (.int .u8 15), .lit (.int .u8 25), .lit (.int .u8 17), .lit (.int .u8 4), .lit (.int .u8 8), .lit (.int .u8 31), .lit (.int .u8 27), .lit (.int .u8 13), .lit (.int .u8 23), .lit (.int .u8 21), .lit (.int .u8 19), .lit (.int .u8 16), .lit (.int .u8 7), .lit (.int .u8 26), .lit (.int .u8 12), .lit (.int .u8 18), .lit (.int .u8 6), .lit (.int .u8 11), .lit (.int .u8 5), .lit (.int .u8 10), .lit (.int .u8 9)]
def laid_math_bits_deBruijn64tab {H : Type} : DataW H := .agg [.lit (.int .u8 0), .lit (.int .u8 1), .lit (.int .u8 56), .lit (.int .u8 2), .lit (.int .u8 57), .lit (.int .u8 49), .lit (.int .u8 28), .lit (.int .u8 3), .lit (.int .u8 61), .lit (.int .u8 58), .lit (.int .u8 42), .lit (.int .u8 50), .lit (.int .u8 38), .lit (.int .u8 29), .lit (.int .u8 17), .lit (.int .u8 4), .lit (.int .u8 62), .lit (.int .u8 47), .lit (.int .u8 59), .lit (.int .u8 36), .lit (.int .u8 45), .lit (.int .u8 43), .lit (.int .u8 51), .lit (.int .u8 22), .lit (.int .u8 53), .lit (.int .u8 39), .lit (.int .u8 33), .lit (.int .u8 30), .lit (.int .u8 24), .lit (.int .u8 18), .lit (.int .u8 12), .lit (.int .u8 5), .lit (.int .u8 63), .lit (.int .u8 55), .lit (.int .u8 48), .lit (.int .u8 27), .lit (.int .u8 60), .lit (.int .u8 41), .lit (.int .u8 37), .lit (.int .u8 16), .lit (.int .u8 46), .lit (.int .u8 35), .lit (.int .u8 44), .lit (.int .u8 21), .lit (.int .u8 52), .lit (.int .u8 32), .lit (.int .u8 23), .lit (.int .u8 11), .lit (.int .u8 54), .lit (.int .u8 26), .lit (.int .u8 40), .lit (.int .u8 15), .lit (.int .u8 34), .lit (.int .u8 20), .lit (.int .u8 31), .lit (.int .u8 10), .lit (.int .u8 25), .lit (.int .u8 14), .lit (.int .u8 19), .lit (.int .u8 9), .lit (.int .u8 13), .lit (.int .u8 8), .lit (.int .u8 7), .lit (.int .u8 6)]
def laid_internal_strconv_uint64pow10 {H : Type} : DataW H := .agg [.lit (.int .u64 1), .lit (.int .u64 10), .lit (.int .u64 100), .lit (.int .u64 1000), .lit (.int .u64 10000), .lit (.int .u64 100000), .lit (.int .u64 1000000), .lit (.int .u64 10000000), .lit (.int .u64 100000000), .lit (.int .u64 1000000000), .lit (.int .u64 10000000000), .lit (.int .u64 100000000000), .lit (.int .u64 1000000000000), .lit (.int .u64 10000000000000), .lit (.int .u64 100000000000000), .lit (.int .u64 1000000000000000), .lit (.int .u64 10000000000000000), .lit (.int .u64 100000000000000000), .lit (.int .u64 1000000000000000000), .lit (.int .u64 10000000000000000000)]

/-- 'ploverlaw17.QueryBlanks': WHATEVER THE INPUT: true; the input reads as it did. -/
def queryBlanksSpec : ChangeSpec := { name := "queryBlanks", fn := fun _ => fun
  | [d1, d2] => { results := [.lit (.bool true)], args := [d1, d2] }
  | _ => none }
def queryBlanksRow : OpenClaim := { program := "ytbepgbkbpkaodaadoor", sum := "228af56fa8f22b56a17d406d55c60f193207e0c93ee442fe09b290dedee3b612", func := "plover/ploverlaw17.QueryBlanks", spec := "queryBlanks", inPlace := ["internal/bytealg.IndexByteString"], unfollowed := true, recurses := true, named := ["plover/fold.high", "plover/fold.letters", "plover/fold.moves"], apart := false, laid := [("plover/fold.letters", laid_plover_fold_letters), ("plover/fold.high", laid_plover_fold_high), ("plover/fold.moves", laid_plover_fold_moves)] }
def QueryBlanksSaid : Prop := queryBlanksRow.holds Tryd.pinned (OpenSpec.ofChange queryBlanksSpec)

/-- ITS FALSE NEIGHBOUR: 'it returns false'. Refute it at one input. -/
def queryBlanksWrong : ChangeSpec := { name := "queryBlanks", fn := fun _ => fun
  | [d1, d2] => { results := [.lit (.bool false)], args := [d1, d2] }
  | _ => none }
def QueryBlanksWrongFalsely : Prop := queryBlanksRow.holds Tryd.pinned (OpenSpec.ofChange queryBlanksWrong)

/-- 'ploverlaw17.QueryCase': WHATEVER THE INPUT: true; the input reads as it did. -/
def queryCaseSpec : ChangeSpec := { name := "queryCase", fn := fun _ => fun
  | [d] => { results := [.lit (.bool true)], args := [d] }
  | _ => none }
def queryCaseRow : OpenClaim := { program := "ytbepgbkbpkaodaadoor", sum := "228af56fa8f22b56a17d406d55c60f193207e0c93ee442fe09b290dedee3b612", func := "plover/ploverlaw17.QueryCase", spec := "queryCase", inPlace := ["internal/bytealg.IndexByteString"], unfollowed := true, recurses := true, named := ["plover/fold.high", "plover/fold.letters", "plover/fold.moves"], apart := false, laid := [("plover/fold.letters", laid_plover_fold_letters), ("plover/fold.high", laid_plover_fold_high), ("plover/fold.moves", laid_plover_fold_moves)] }
def QueryCaseSaid : Prop := queryCaseRow.holds Tryd.pinned (OpenSpec.ofChange queryCaseSpec)

/-- ITS FALSE NEIGHBOUR: 'it returns false'. Refute it at one input. -/
def queryCaseWrong : ChangeSpec := { name := "queryCase", fn := fun _ => fun
  | [d] => { results := [.lit (.bool false)], args := [d] }
  | _ => none }
def QueryCaseWrongFalsely : Prop := queryCaseRow.holds Tryd.pinned (OpenSpec.ofChange queryCaseWrong)

/-- 'ploverlaw17.QueryNests': WHATEVER THE INPUT: true; the input reads as it did. -/
def queryNestsSpec : ChangeSpec := { name := "queryNests", fn := fun _ => fun
  | [d1, d2, d3] => { results := [.lit (.bool true)], args := [d1, d2, d3] }
  | _ => none }
def queryNestsRow : OpenClaim := { program := "ytbepgbkbpkaodaadoor", sum := "228af56fa8f22b56a17d406d55c60f193207e0c93ee442fe09b290dedee3b612", func := "plover/ploverlaw17.QueryNests", spec := "queryNests", inPlace := ["internal/bytealg.IndexByteString"], unfollowed := true, recurses := true, named := ["plover/fold.high", "plover/fold.letters", "plover/fold.moves"], apart := false, laid := [("plover/fold.letters", laid_plover_fold_letters), ("plover/fold.high", laid_plover_fold_high), ("plover/fold.moves", laid_plover_fold_moves)] }
def QueryNestsSaid : Prop := queryNestsRow.holds Tryd.pinned (OpenSpec.ofChange queryNestsSpec)

/-- ITS FALSE NEIGHBOUR: 'it returns false'. Refute it at one input. -/
def queryNestsWrong : ChangeSpec := { name := "queryNests", fn := fun _ => fun
  | [d1, d2, d3] => { results := [.lit (.bool false)], args := [d1, d2, d3] }
  | _ => none }
def QueryNestsWrongFalsely : Prop := queryNestsRow.holds Tryd.pinned (OpenSpec.ofChange queryNestsWrong)

/-- 'ploverlaw17.QueryShows': WHATEVER THE INPUT: true; the input reads as it did. -/
def queryShowsSpec : ChangeSpec := { name := "queryShows", fn := fun _ => fun
  | [d] => { results := [.lit (.bool true)], args := [d] }
  | _ => none }
def queryShowsRow : OpenClaim := { program := "ytbepgbkbpkaodaadoor", sum := "228af56fa8f22b56a17d406d55c60f193207e0c93ee442fe09b290dedee3b612", func := "plover/ploverlaw17.QueryShows", spec := "queryShows", inPlace := ["internal/bytealg.IndexByteString", "internal/abi.NoEscape", "internal/bytealg.MakeNoZero"], unfollowed := true, recurses := true, named := ["plover/fold.high", "plover/fold.letters", "plover/fold.moves", "internal/strconv.uint64pow10", "math/bits.deBruijn32tab", "math/bits.deBruijn64tab"], loops := true, apart := false, laid := [("math/bits.deBruijn32tab", laid_math_bits_deBruijn32tab), ("math/bits.deBruijn64tab", laid_math_bits_deBruijn64tab), ("internal/strconv.uint64pow10", laid_internal_strconv_uint64pow10), ("plover/fold.letters", laid_plover_fold_letters), ("plover/fold.high", laid_plover_fold_high), ("plover/fold.moves", laid_plover_fold_moves)] }
def QueryShowsSaid : Prop := queryShowsRow.holds Tryd.pinned (OpenSpec.ofChange queryShowsSpec)

/-- ITS FALSE NEIGHBOUR: 'it returns false'. Refute it at one input. -/
def queryShowsWrong : ChangeSpec := { name := "queryShows", fn := fun _ => fun
  | [d] => { results := [.lit (.bool false)], args := [d] }
  | _ => none }
def QueryShowsWrongFalsely : Prop := queryShowsRow.holds Tryd.pinned (OpenSpec.ofChange queryShowsWrong)

/-- 'ploverlaw17.QueryBack': WHATEVER THE INPUT: true; the input reads as it did. -/
def queryBackSpec : ChangeSpec := { name := "queryBack", fn := fun _ => fun
  | [d1, d2] => { results := [.lit (.bool true)], args := [d1, d2] }
  | _ => none }
def queryBackRow : OpenClaim := { program := "ytbepgbkbpkaodaadoor", sum := "228af56fa8f22b56a17d406d55c60f193207e0c93ee442fe09b290dedee3b612", func := "plover/ploverlaw17.QueryBack", spec := "queryBack", inPlace := ["internal/bytealg.IndexByteString", "internal/abi.NoEscape", "internal/bytealg.MakeNoZero"], unfollowed := true, recurses := true, named := ["plover/fold.high", "plover/fold.letters", "plover/fold.moves", "internal/strconv.uint64pow10", "math/bits.deBruijn32tab", "math/bits.deBruijn64tab"], loops := true, apart := false, laid := [("math/bits.deBruijn32tab", laid_math_bits_deBruijn32tab), ("math/bits.deBruijn64tab", laid_math_bits_deBruijn64tab), ("internal/strconv.uint64pow10", laid_internal_strconv_uint64pow10), ("plover/fold.letters", laid_plover_fold_letters), ("plover/fold.high", laid_plover_fold_high), ("plover/fold.moves", laid_plover_fold_moves)] }
def QueryBackSaid : Prop := queryBackRow.holds Tryd.pinned (OpenSpec.ofChange queryBackSpec)

/-- ITS FALSE NEIGHBOUR: 'it returns false'. Refute it at one input. -/
def queryBackWrong : ChangeSpec := { name := "queryBack", fn := fun _ => fun
  | [d1, d2] => { results := [.lit (.bool false)], args := [d1, d2] }
  | _ => none }
def QueryBackWrongFalsely : Prop := queryBackRow.holds Tryd.pinned (OpenSpec.ofChange queryBackWrong)

/- THE SECOND FORM. 'bulk': how many values and letters a reading holds, each counted each time it is reached (what is shared counts as often as it is met; a slice's spare places count too). A statement '..UptoSaid' is the law's where the arguments, and the package variables that the reading takes, are together of bulk at most 1048576: NARROWER than '..Said'. Prove '..Said' where nothing that the law and all that it calls make is longer than what came in: it says more and counts as full. Else prove '..UptoSaid'. A law counts once. -/
mutual
def uptoBulk {H : Type} : DataW H → Nat
  | .lit (.string bytes) => bytes.length + 1
  | .lit _ => 1
  | .nil => 1
  | .ptr d => uptoBulk d + 1
  | .slice elems spare => uptoBulkAll elems + uptoBulkAll spare + 1
  | .agg parts => uptoBulkAll parts + 1
  | .iface _ d => uptoBulk d + 1
  | .map entries => uptoBulkEntries entries + 1
  | .held _ => 1
def uptoBulkAll {H : Type} : List (DataW H) → Nat
  | [] => 0
  | d :: r => uptoBulk d + uptoBulkAll r
def uptoBulkEntries {H : Type} : List (Lit × DataW H) → Nat
  | [] => 0
  | x :: r => uptoBulkEntry x + uptoBulkEntries r
def uptoBulkEntry {H : Type} : Lit × DataW H → Nat
  | (.string bytes, d) => bytes.length + uptoBulk d + 1
  | (_, d) => uptoBulk d + 1
 end
def uptoSmall : (H : Type) → List (DataW H) → Bool := fun _ ds => decide (uptoBulkAll ds ≤ 1048576)
def OpenSpec.upto (s : _root_.Go.ChangeSpec) : _root_.Go.OpenSpec := { _root_.Go.OpenSpec.ofChange s with cond := some uptoSmall }

/-- 'ploverlaw17.QueryBlanks', WHERE WHAT IT READS IS OF BULK AT MOST 1048576: true; the input reads as it did. -/
def queryBlanksUptoRow : OpenClaim := { program := "ytbepgbkbpkaodaadoor", sum := "228af56fa8f22b56a17d406d55c60f193207e0c93ee442fe09b290dedee3b612", func := "plover/ploverlaw17.QueryBlanks", spec := "queryBlanks", inPlace := ["internal/bytealg.IndexByteString"], unfollowed := true, recurses := true, named := ["plover/fold.high", "plover/fold.letters", "plover/fold.moves"], apart := false, laid := [("plover/fold.letters", laid_plover_fold_letters), ("plover/fold.high", laid_plover_fold_high), ("plover/fold.moves", laid_plover_fold_moves)], narrowed := true }
def QueryBlanksUptoSaid : Prop := queryBlanksUptoRow.holds Tryd.pinned (OpenSpec.upto queryBlanksSpec)

/-- 'ploverlaw17.QueryCase', WHERE WHAT IT READS IS OF BULK AT MOST 1048576: true; the input reads as it did. -/
def queryCaseUptoRow : OpenClaim := { program := "ytbepgbkbpkaodaadoor", sum := "228af56fa8f22b56a17d406d55c60f193207e0c93ee442fe09b290dedee3b612", func := "plover/ploverlaw17.QueryCase", spec := "queryCase", inPlace := ["internal/bytealg.IndexByteString"], unfollowed := true, recurses := true, named := ["plover/fold.high", "plover/fold.letters", "plover/fold.moves"], apart := false, laid := [("plover/fold.letters", laid_plover_fold_letters), ("plover/fold.high", laid_plover_fold_high), ("plover/fold.moves", laid_plover_fold_moves)], narrowed := true }
def QueryCaseUptoSaid : Prop := queryCaseUptoRow.holds Tryd.pinned (OpenSpec.upto queryCaseSpec)

/-- 'ploverlaw17.QueryNests', WHERE WHAT IT READS IS OF BULK AT MOST 1048576: true; the input reads as it did. -/
def queryNestsUptoRow : OpenClaim := { program := "ytbepgbkbpkaodaadoor", sum := "228af56fa8f22b56a17d406d55c60f193207e0c93ee442fe09b290dedee3b612", func := "plover/ploverlaw17.QueryNests", spec := "queryNests", inPlace := ["internal/bytealg.IndexByteString"], unfollowed := true, recurses := true, named := ["plover/fold.high", "plover/fold.letters", "plover/fold.moves"], apart := false, laid := [("plover/fold.letters", laid_plover_fold_letters), ("plover/fold.high", laid_plover_fold_high), ("plover/fold.moves", laid_plover_fold_moves)], narrowed := true }
def QueryNestsUptoSaid : Prop := queryNestsUptoRow.holds Tryd.pinned (OpenSpec.upto queryNestsSpec)

/-- 'ploverlaw17.QueryShows', WHERE WHAT IT READS IS OF BULK AT MOST 1048576: true; the input reads as it did. -/
def queryShowsUptoRow : OpenClaim := { program := "ytbepgbkbpkaodaadoor", sum := "228af56fa8f22b56a17d406d55c60f193207e0c93ee442fe09b290dedee3b612", func := "plover/ploverlaw17.QueryShows", spec := "queryShows", inPlace := ["internal/bytealg.IndexByteString", "internal/abi.NoEscape", "internal/bytealg.MakeNoZero"], unfollowed := true, recurses := true, named := ["plover/fold.high", "plover/fold.letters", "plover/fold.moves", "internal/strconv.uint64pow10", "math/bits.deBruijn32tab", "math/bits.deBruijn64tab"], loops := true, apart := false, laid := [("math/bits.deBruijn32tab", laid_math_bits_deBruijn32tab), ("math/bits.deBruijn64tab", laid_math_bits_deBruijn64tab), ("internal/strconv.uint64pow10", laid_internal_strconv_uint64pow10), ("plover/fold.letters", laid_plover_fold_letters), ("plover/fold.high", laid_plover_fold_high), ("plover/fold.moves", laid_plover_fold_moves)], narrowed := true }
def QueryShowsUptoSaid : Prop := queryShowsUptoRow.holds Tryd.pinned (OpenSpec.upto queryShowsSpec)

/-- 'ploverlaw17.QueryBack', WHERE WHAT IT READS IS OF BULK AT MOST 1048576: true; the input reads as it did. -/
def queryBackUptoRow : OpenClaim := { program := "ytbepgbkbpkaodaadoor", sum := "228af56fa8f22b56a17d406d55c60f193207e0c93ee442fe09b290dedee3b612", func := "plover/ploverlaw17.QueryBack", spec := "queryBack", inPlace := ["internal/bytealg.IndexByteString", "internal/abi.NoEscape", "internal/bytealg.MakeNoZero"], unfollowed := true, recurses := true, named := ["plover/fold.high", "plover/fold.letters", "plover/fold.moves", "internal/strconv.uint64pow10", "math/bits.deBruijn32tab", "math/bits.deBruijn64tab"], loops := true, apart := false, laid := [("math/bits.deBruijn32tab", laid_math_bits_deBruijn32tab), ("math/bits.deBruijn64tab", laid_math_bits_deBruijn64tab), ("internal/strconv.uint64pow10", laid_internal_strconv_uint64pow10), ("plover/fold.letters", laid_plover_fold_letters), ("plover/fold.high", laid_plover_fold_high), ("plover/fold.moves", laid_plover_fold_moves)], narrowed := true }
def QueryBackUptoSaid : Prop := queryBackUptoRow.holds Tryd.pinned (OpenSpec.upto queryBackSpec)

end Rows
end Go.Proofs.YtbepgbkbpkaodaaDoor
