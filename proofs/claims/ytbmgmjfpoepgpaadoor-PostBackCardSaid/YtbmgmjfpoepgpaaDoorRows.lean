/-
  NARROWER THAN 'FOR EVERY INPUT', by the rows' own cells (each row's printed sentence says how): PostBack: laid · PostNeeds: laid · PostUndisturbed: laid · QueryBlanks: laid · QueryCase: laid · QueryNests: laid.
  DERIVED. THE GIVEN ROWS OF THIS SEAT. 6 by the template 'for every input the law returns true; each argument reads behind the call as it read before'; 0 by the template 'total and deterministic' (their statements: YtbmgmjfpoepgpaaDoorTotals.lean).
  GIVEN WITH THE SEED: the statements are not yours to turn. If you find one false, say at which input.
  Laid BY PROGRAM, IN A SANDBOX (cutbox-rows.mjs): the forced cells as the released guide's own fill.sh prints them over the translation 5fa73548fd7ec3a7… (all of the seat's roots in one cut). By AI agents, Wed Nov 11 2026. No macro, syntax, notation, axiom, sorry.
-/
import Derived.Test.YtbmgmjfpoepgpaaDoorChecked
import GoSem.Claim
import GoSem.ClaimJoined
import GoSem.ClaimMapViews
import Derived.JoinedTies
import Derived.KernelRfl
namespace Go.Proofs.YtbmgmjfpoepgpaaDoor
/- THE CELL 'sum', in the pinned program and in every row, IS THE sha256 OF THE DUMP (.gsa) THAT YtbmgmjfpoepgpaaDoorProg.lean LOADS. Nothing in Lean hashes anything: it is a label: what it is worth is what the hold of that sum in a sandbox is worth. -/
noncomputable def Tryd.pinned : Pinned := { name := "ytbmgmjfpoepgpaadoor", sum := "5fa73548fd7ec3a76de35fe96b6c74b4ce32ceee1f6ec21dba77ecd585c32e0d", checked := Tryd.checked }
namespace Rows
def none {H : Type} : Left H := { results := [], args := [] }

/- WHAT THE LISTED PACKAGE-LEVEL VARIABLES READ AS WHEN THE CALL BEGINS. Each datum BY PROGRAM (the guide's laid-datum.mjs) off the statement by which the dump's own 'gosem.cut.vars' lays the variable. In a bare row this is a premise. The card (YtbmgmjfpoepgpaaDoorCards.lean) ties it to the program's text. -/
def laid_plover_pool_sizes {H : Type} : DataW H := .agg [.lit (.int .i64 4), .lit (.int .i64 16), .lit (.int .i64 64), .lit (.int .i64 256)]
def laid_plover_fold_letters {H : Type} : DataW H := .agg [.agg [.lit (.int .i32 65), .lit (.int .i32 90)], .agg [.lit (.int .i32 97), .lit (.int .i32 122)], .agg [.lit (.int .i32 192), .lit (.int .i32 214)], .agg [.lit (.int .i32 216), .lit (.int .i32 246)], .agg [.lit (.int .i32 248), .lit (.int .i32 591)], .agg [.lit (.int .i32 902), .lit (.int .i32 902)], .agg [.lit (.int .i32 904), .lit (.int .i32 906)], .agg [.lit (.int .i32 908), .lit (.int .i32 908)], .agg [.lit (.int .i32 910), .lit (.int .i32 929)], .agg [.lit (.int .i32 931), .lit (.int .i32 974)], .agg [.lit (.int .i32 1024), .lit (.int .i32 1153)], .agg [.lit (.int .i32 1162), .lit (.int .i32 1327)], .agg [.lit (.int .i32 1488), .lit (.int .i32 1514)]]
def laid_plover_fold_high {H : Type} : DataW H := .agg [.agg [.lit (.int .i32 19968), .lit (.int .i32 40959)], .agg [.lit (.int .i32 44032), .lit (.int .i32 55203)]]
def laid_plover_fold_moves {H : Type} : DataW H := .agg [.agg [.agg [.lit (.int .i32 65), .lit (.int .i32 90)], .lit (.int .i64 1), .lit (.int .i32 32)], .agg [.agg [.lit (.int .i32 192), .lit (.int .i32 214)], .lit (.int .i64 1), .lit (.int .i32 32)], .agg [.agg [.lit (.int .i32 216), .lit (.int .i32 222)], .lit (.int .i64 1), .lit (.int .i32 32)], .agg [.agg [.lit (.int .i32 256), .lit (.int .i32 311)], .lit (.int .i64 2), .lit (.int .i32 1)], .agg [.agg [.lit (.int .i32 313), .lit (.int .i32 328)], .lit (.int .i64 3), .lit (.int .i32 1)], .agg [.agg [.lit (.int .i32 330), .lit (.int .i32 375)], .lit (.int .i64 2), .lit (.int .i32 1)], .agg [.agg [.lit (.int .i32 376), .lit (.int .i32 376)], .lit (.int .i64 1), .lit (.int .i32 (-121))], .agg [.agg [.lit (.int .i32 377), .lit (.int .i32 382)], .lit (.int .i64 3), .lit (.int .i32 1)], .agg [.agg [.lit (.int .i32 383), .lit (.int .i32 383)], .lit (.int .i64 1), .lit (.int .i32 (-268))], .agg [.agg [.lit (.int .i32 902), .lit (.int .i32 902)], .lit (.int .i64 1), .lit (.int .i32 38)], .agg [.agg [.lit (.int .i32 904), .lit (.int .i32 906)], .lit (.int .i64 1), .lit (.int .i32 37)], .agg [.agg [.lit (.int .i32 908), .lit (.int .i32 908)], .lit (.int .i64 1), .lit (.int .i32 64)], .agg [.agg [.lit (.int .i32 910), .lit (.int .i32 911)], .lit (.int .i64 1), .lit (.int .i32 63)], .agg [.agg [.lit (.int .i32 913), .lit (.int .i32 929)], .lit (.int .i64 1), .lit (.int .i32 32)], .agg [.agg [.lit (.int .i32 931), .lit (.int .i32 939)], .lit (.int .i64 1), .lit (.int .i32 32)], .agg [.agg [.lit (.int .i32 962), .lit (.int .i32 962)], .lit (.int .i64 1), .lit (.int .i32 1)], .agg [.agg [.lit (.int .i32 1024), .lit (.int .i32 1039)], .lit (.int .i64 1), .lit (.int .i32 80)], .agg [.agg [.lit (.int .i32 1040), .lit (.int .i32 1071)], .lit (.int .i64 1), .lit (.int .i32 32)], .agg [.agg [.lit (.int .i32 1120), .lit (.int .i32 1153)], .lit (.int .i64 2), .lit (.int .i32 1)], .agg [.agg [.lit (.int .i32 1162), .lit (.int .i32 1215)], .lit (.int .i64 2), .lit (.int .i32 1)], .agg [.agg [.lit (.int .i32 1232), .lit (.int .i32 1327)], .lit (.int .i64 2), .lit (.int .i32 1)], .agg [.agg [.lit (.int .i32 1632), .lit (.int .i32 1641)], .lit (.int .i64 1), .lit (.int .i32 (-1584))], .agg [.agg [.lit (.int .i32 0), .lit (.int .i32 0)], .lit (.int .i64 0), .lit (.int .i32 0)], .agg [.agg [.lit (.int .i32 0), .lit (.int .i32 0)], .lit (.int .i64 0), .lit (.int .i32 0)]]

/-- 'ploverlaw09.PostBack': WHATEVER THE INPUT: true; the input reads as it did. -/
def postBackSpec : ChangeSpec := { name := "postBack", fn := fun _ => fun
  | [d1, d2] => { results := [.lit (.bool true)], args := [d1, d2] }
  | _ => none }
def postBackRow : OpenClaim := { program := "ytbmgmjfpoepgpaadoor", sum := "5fa73548fd7ec3a76de35fe96b6c74b4ce32ceee1f6ec21dba77ecd585c32e0d", func := "plover/ploverlaw09.PostBack", spec := "postBack", unfollowed := true, recurses := true, named := ["plover/pool.sizes"], apart := false, laid := [("plover/pool.sizes", laid_plover_pool_sizes)] }
def PostBackSaid : Prop := postBackRow.holds Tryd.pinned (OpenSpec.ofChange postBackSpec)

/-- ITS FALSE NEIGHBOUR: 'it returns false'. Refute it at one input. -/
def postBackWrong : ChangeSpec := { name := "postBack", fn := fun _ => fun
  | [d1, d2] => { results := [.lit (.bool false)], args := [d1, d2] }
  | _ => none }
def PostBackWrongFalsely : Prop := postBackRow.holds Tryd.pinned (OpenSpec.ofChange postBackWrong)

/-- 'ploverlaw09.PostNeeds': WHATEVER THE INPUT: true; the input reads as it did. -/
def postNeedsSpec : ChangeSpec := { name := "postNeeds", fn := fun _ => fun
  | [d1, d2, d3, d4] => { results := [.lit (.bool true)], args := [d1, d2, d3, d4] }
  | _ => none }
def postNeedsRow : OpenClaim := { program := "ytbmgmjfpoepgpaadoor", sum := "5fa73548fd7ec3a76de35fe96b6c74b4ce32ceee1f6ec21dba77ecd585c32e0d", func := "plover/ploverlaw09.PostNeeds", spec := "postNeeds", unfollowed := true, recurses := true, named := ["plover/pool.sizes"], apart := false, laid := [("plover/pool.sizes", laid_plover_pool_sizes)] }
def PostNeedsSaid : Prop := postNeedsRow.holds Tryd.pinned (OpenSpec.ofChange postNeedsSpec)

/-- ITS FALSE NEIGHBOUR: 'it returns false'. Refute it at one input. -/
def postNeedsWrong : ChangeSpec := { name := "postNeeds", fn := fun _ => fun
  | [d1, d2, d3, d4] => { results := [.lit (.bool false)], args := [d1, d2, d3, d4] }
  | _ => none }
def PostNeedsWrongFalsely : Prop := postNeedsRow.holds Tryd.pinned (OpenSpec.ofChange postNeedsWrong)

/-- 'ploverlaw09.PostUndisturbed': WHATEVER THE INPUT: true; the input reads as it did. -/
def postUndisturbedSpec : ChangeSpec := { name := "postUndisturbed", fn := fun _ => fun
  | [d1, d2, d3, d4] => { results := [.lit (.bool true)], args := [d1, d2, d3, d4] }
  | _ => none }
def postUndisturbedRow : OpenClaim := { program := "ytbmgmjfpoepgpaadoor", sum := "5fa73548fd7ec3a76de35fe96b6c74b4ce32ceee1f6ec21dba77ecd585c32e0d", func := "plover/ploverlaw09.PostUndisturbed", spec := "postUndisturbed", unfollowed := true, recurses := true, named := ["plover/pool.sizes"], apart := false, laid := [("plover/pool.sizes", laid_plover_pool_sizes)] }
def PostUndisturbedSaid : Prop := postUndisturbedRow.holds Tryd.pinned (OpenSpec.ofChange postUndisturbedSpec)

/-- ITS FALSE NEIGHBOUR: 'it returns false'. Refute it at one input. -/
def postUndisturbedWrong : ChangeSpec := { name := "postUndisturbed", fn := fun _ => fun
  | [d1, d2, d3, d4] => { results := [.lit (.bool false)], args := [d1, d2, d3, d4] }
  | _ => none }
def PostUndisturbedWrongFalsely : Prop := postUndisturbedRow.holds Tryd.pinned (OpenSpec.ofChange postUndisturbedWrong)

/-- 'ploverlaw17.QueryBlanks': WHATEVER THE INPUT: true; the input reads as it did. -/
def queryBlanksSpec : ChangeSpec := { name := "queryBlanks", fn := fun _ => fun
  | [d1, d2] => { results := [.lit (.bool true)], args := [d1, d2] }
  | _ => none }
def queryBlanksRow : OpenClaim := { program := "ytbmgmjfpoepgpaadoor", sum := "5fa73548fd7ec3a76de35fe96b6c74b4ce32ceee1f6ec21dba77ecd585c32e0d", func := "plover/ploverlaw17.QueryBlanks", spec := "queryBlanks", inPlace := ["internal/bytealg.IndexByteString"], unfollowed := true, recurses := true, named := ["plover/fold.high", "plover/fold.letters", "plover/fold.moves"], apart := false, laid := [("plover/fold.letters", laid_plover_fold_letters), ("plover/fold.high", laid_plover_fold_high), ("plover/fold.moves", laid_plover_fold_moves)] }
def QueryBlanksSaid : Prop := queryBlanksRow.holds Tryd.pinned (OpenSpec.ofChange queryBlanksSpec)

/-- ITS FALSE NEIGHBOUR: 'it returns false'. Refute it at one input. -/
def queryBlanksWrong : ChangeSpec := { name := "queryBlanks", fn := fun _ => fun
  | [d1, d2] => { results := [.lit (.bool false)], args := [d1, d2] }
  | _ => none }
def QueryBlanksWrongFalsely : Prop := queryBlanksRow.holds Tryd.pinned (OpenSpec.ofChange queryBlanksWrong)

/-- 'ploverlaw17.QueryCase': WHATEVER THE INPUT: true; the input reads as it did. -/
def queryCaseSpec : ChangeSpec := { name := "queryCase", fn := fun _ => fun
  | [d] => { results := [.lit (.bool true)], args := [d] }
  | _ => none }
def queryCaseRow : OpenClaim := { program := "ytbmgmjfpoepgpaadoor", sum := "5fa73548fd7ec3a76de35fe96b6c74b4ce32ceee1f6ec21dba77ecd585c32e0d", func := "plover/ploverlaw17.QueryCase", spec := "queryCase", inPlace := ["internal/bytealg.IndexByteString"], unfollowed := true, recurses := true, named := ["plover/fold.high", "plover/fold.letters", "plover/fold.moves"], apart := false, laid := [("plover/fold.letters", laid_plover_fold_letters), ("plover/fold.high", laid_plover_fold_high), ("plover/fold.moves", laid_plover_fold_moves)] }
def QueryCaseSaid : Prop := queryCaseRow.holds Tryd.pinned (OpenSpec.ofChange queryCaseSpec)

/-- ITS FALSE NEIGHBOUR: 'it returns false'. Refute it at one input. -/
def queryCaseWrong : ChangeSpec := { name := "queryCase", fn := fun _ => fun
  | [d] => { results := [.lit (.bool false)], args := [d] }
  | _ => none }
def QueryCaseWrongFalsely : Prop := queryCaseRow.holds Tryd.pinned (OpenSpec.ofChange queryCaseWrong)

/-- 'ploverlaw17.QueryNests': WHATEVER THE INPUT: true; the input reads as it did. -/
def queryNestsSpec : ChangeSpec := { name := "queryNests", fn := fun _ => fun
  | [d1, d2, d3] => { results := [.lit (.bool true)], args := [d1, d2, d3] }
  | _ => none }
def queryNestsRow : OpenClaim := { program := "ytbmgmjfpoepgpaadoor", sum := "5fa73548fd7ec3a76de35fe96b6c74b4ce32ceee1f6ec21dba77ecd585c32e0d", func := "plover/ploverlaw17.QueryNests", spec := "queryNests", inPlace := ["internal/bytealg.IndexByteString"], unfollowed := true, recurses := true, named := ["plover/fold.high", "plover/fold.letters", "plover/fold.moves"], apart := false, laid := [("plover/fold.letters", laid_plover_fold_letters), ("plover/fold.high", laid_plover_fold_high), ("plover/fold.moves", laid_plover_fold_moves)] }
def QueryNestsSaid : Prop := queryNestsRow.holds Tryd.pinned (OpenSpec.ofChange queryNestsSpec)

/-- ITS FALSE NEIGHBOUR: 'it returns false'. Refute it at one input. -/
def queryNestsWrong : ChangeSpec := { name := "queryNests", fn := fun _ => fun
  | [d1, d2, d3] => { results := [.lit (.bool false)], args := [d1, d2, d3] }
  | _ => none }
def QueryNestsWrongFalsely : Prop := queryNestsRow.holds Tryd.pinned (OpenSpec.ofChange queryNestsWrong)

/- THE SECOND FORM. 'bulk': how many values and letters a reading holds, each counted each time it is reached (what is shared counts as often as it is met; a slice's spare places count too). A statement '..UptoSaid' is the law's where the arguments, and the package variables that the reading takes, are together of bulk at most 1048576: NARROWER than '..Said'. Prove '..Said' where nothing that the law and all that it calls make is longer than what came in: it says more and counts as full. Else prove '..UptoSaid'. A law counts once. -/
mutual
def uptoBulk {H : Type} : DataW H → Nat
  | .lit (.string bytes) => bytes.length + 1
  | .lit _ => 1
  | .nil => 1
  | .ptr d => uptoBulk d + 1
  | .slice elems spare => uptoBulkAll elems + uptoBulkAll spare + 1
  | .agg parts => uptoBulkAll parts + 1
  | .iface _ d => uptoBulk d + 1
  | .map entries => uptoBulkEntries entries + 1
  | .held _ => 1
def uptoBulkAll {H : Type} : List (DataW H) → Nat
  | [] => 0
  | d :: r => uptoBulk d + uptoBulkAll r
def uptoBulkEntries {H : Type} : List (Lit × DataW H) → Nat
  | [] => 0
  | x :: r => uptoBulkEntry x + uptoBulkEntries r
def uptoBulkEntry {H : Type} : Lit × DataW H → Nat
  | (.string bytes, d) => bytes.length + uptoBulk d + 1
  | (_, d) => uptoBulk d + 1
 end
def uptoSmall : (H : Type) → List (DataW H) → Bool := fun _ ds => decide (uptoBulkAll ds ≤ 1048576)
def OpenSpec.upto (s : _root_.Go.ChangeSpec) : _root_.Go.OpenSpec := { _root_.Go.OpenSpec.ofChange s with cond := some uptoSmall }

/-- 'ploverlaw09.PostBack', WHERE WHAT IT READS IS OF BULK AT MOST 1048576: true; the input reads as it did. -/
def postBackUptoRow : OpenClaim := { program := "ytbmgmjfpoepgpaadoor", sum := "5fa73548fd7ec3a76de35fe96b6c74b4ce32ceee1f6ec21dba77ecd585c32e0d", func := "plover/ploverlaw09.PostBack", spec := "postBack", unfollowed := true, recurses := true, named := ["plover/pool.sizes"], apart := false, laid := [("plover/pool.sizes", laid_plover_pool_sizes)], narrowed := true }
def PostBackUptoSaid : Prop := postBackUptoRow.holds Tryd.pinned (OpenSpec.upto postBackSpec)

/-- 'ploverlaw09.PostNeeds', WHERE WHAT IT READS IS OF BULK AT MOST 1048576: true; the input reads as it did. -/
def postNeedsUptoRow : OpenClaim := { program := "ytbmgmjfpoepgpaadoor", sum := "5fa73548fd7ec3a76de35fe96b6c74b4ce32ceee1f6ec21dba77ecd585c32e0d", func := "plover/ploverlaw09.PostNeeds", spec := "postNeeds", unfollowed := true, recurses := true, named := ["plover/pool.sizes"], apart := false, laid := [("plover/pool.sizes", laid_plover_pool_sizes)], narrowed := true }
def PostNeedsUptoSaid : Prop := postNeedsUptoRow.holds Tryd.pinned (OpenSpec.upto postNeedsSpec)

/-- 'ploverlaw09.PostUndisturbed', WHERE WHAT IT READS IS OF BULK AT MOST 1048576: true; the input reads as it did. -/
def postUndisturbedUptoRow : OpenClaim := { program := "ytbmgmjfpoepgpaadoor", sum := "5fa73548fd7ec3a76de35fe96b6c74b4ce32ceee1f6ec21dba77ecd585c32e0d", func := "plover/ploverlaw09.PostUndisturbed", spec := "postUndisturbed", unfollowed := true, recurses := true, named := ["plover/pool.sizes"], apart := false, laid := [("plover/pool.sizes", laid_plover_pool_sizes)], narrowed := true }
def PostUndisturbedUptoSaid : Prop := postUndisturbedUptoRow.holds Tryd.pinned (OpenSpec.upto postUndisturbedSpec)

/-- 'ploverlaw17.QueryBlanks', WHERE WHAT IT READS IS OF BULK AT MOST 1048576: true; the input reads as it did. -/
def queryBlanksUptoRow : OpenClaim := { program := "ytbmgmjfpoepgpaadoor", sum := "5fa73548fd7ec3a76de35fe96b6c74b4ce32ceee1f6ec21dba77ecd585c32e0d", func := "plover/ploverlaw17.QueryBlanks", spec := "queryBlanks", inPlace := ["internal/bytealg.IndexByteString"], unfollowed := true, recurses := true, named := ["plover/fold.high", "plover/fold.letters", "plover/fold.moves"], apart := false, laid := [("plover/fold.letters", laid_plover_fold_letters), ("plover/fold.high", laid_plover_fold_high), ("plover/fold.moves", laid_plover_fold_moves)], narrowed := true }
def QueryBlanksUptoSaid : Prop := queryBlanksUptoRow.holds Tryd.pinned (OpenSpec.upto queryBlanksSpec)

/-- 'ploverlaw17.QueryCase', WHERE WHAT IT READS IS OF BULK AT MOST 1048576: true; the input reads as it did. -/
def queryCaseUptoRow : OpenClaim := { program := "ytbmgmjfpoepgpaadoor", sum := "5fa73548fd7ec3a76de35fe96b6c74b4ce32ceee1f6ec21dba77ecd585c32e0d", func := "plover/ploverlaw17.QueryCase", spec := "queryCase", inPlace := ["internal/bytealg.IndexByteString"], unfollowed := true, recurses := true, named := ["plover/fold.high", "plover/fold.letters", "plover/fold.moves"], apart := false, laid := [("plover/fold.letters", laid_plover_fold_letters), ("plover/fold.high", laid_plover_fold_high), ("plover/fold.moves", laid_plover_fold_moves)], narrowed := true }
def QueryCaseUptoSaid : Prop := queryCaseUptoRow.holds Tryd.pinned (OpenSpec.upto queryCaseSpec)

/-- 'ploverlaw17.QueryNests', WHERE WHAT IT READS IS OF BULK AT MOST 1048576: true; the input reads as it did. -/
def queryNestsUptoRow : OpenClaim := { program := "ytbmgmjfpoepgpaadoor", sum := "5fa73548fd7ec3a76de35fe96b6c74b4ce32ceee1f6ec21dba77ecd585c32e0d", func := "plover/ploverlaw17.QueryNests", spec := "queryNests", inPlace := ["internal/bytealg.IndexByteString"], unfollowed := true, recurses := true, named := ["plover/fold.high", "plover/fold.letters", "plover/fold.moves"], apart := false, laid := [("plover/fold.letters", laid_plover_fold_letters), ("plover/fold.high", laid_plover_fold_high), ("plover/fold.moves", laid_plover_fold_moves)], narrowed := true }
def QueryNestsUptoSaid : Prop := queryNestsUptoRow.holds Tryd.pinned (OpenSpec.upto queryNestsSpec)

end Rows
end Go.Proofs.YtbmgmjfpoepgpaaDoor
