/-
  NARROWER THAN 'FOR EVERY INPUT', by the rows' own cells (each row's printed sentence says how): WritePlays: laid · WriteAtOnce: laid · WriteRefused: laid · WriteErrors: laid · WriteSegments: laid · WriteEmpty: laid.
  DERIVED. THE GIVEN ROWS OF THIS SEAT. 6 by the template 'for every input the law returns true; each argument reads behind the call as it read before'; 0 by the template 'total and deterministic' (their statements: YtogdknnkhkjmcaaGreatDoorTotals.lean).
  GIVEN WITH THE SEED: the statements are not yours to turn. If you find one false, say at which input.
  Laid BY PROGRAM, IN A SANDBOX (cutbox-rows.mjs): the forced cells as the released guide's own fill.sh prints them over the translation a9e183cbfe914c92… (all of the seat's roots in one cut). By AI agents, Wed Nov 11 2026. No macro, syntax, notation, axiom, sorry.
-/
import Derived.Test.YtogdknnkhkjmcaaGreatDoorChecked
import GoSem.Claim
import GoSem.ClaimJoined
import GoSem.ClaimMapViews
import Derived.JoinedTies
import Derived.KernelRfl
namespace Go.Proofs.YtogdknnkhkjmcaaGreatDoor
/- THE CELL 'sum', in the pinned program and in every row, IS THE sha256 OF THE DUMP (.gsa) THAT YtogdknnkhkjmcaaGreatDoorProg.lean LOADS. Nothing in Lean hashes anything: it is a label: what it is worth is what the hold of that sum in a sandbox is worth. -/
noncomputable def Tryz.pinned : Pinned := { name := "ytogdknnkhkjmcaagreatdoor", sum := "a9e183cbfe914c92f342b96fea018c120cd5a272e3d193b572f8734ee59da75d", checked := Tryz.checked }
namespace Rows
def none {H : Type} : Left H := { results := [], args := [] }

/- WHAT THE LISTED PACKAGE-LEVEL VARIABLES READ AS WHEN THE CALL BEGINS. Each datum BY PROGRAM (the guide's laid-datum.mjs) off the statement by which the dump's own 'gosem.cut.vars' lays the variable. In a bare row this is a premise. The card (YtogdknnkhkjmcaaGreatDoorCards.lean) ties it to the program's text. -/
def laid_plover_fold_letters {H : Type} : DataW H := .agg [.agg [.lit (.int .i32 65), .lit (.int .i32 90)], .agg [.lit (.int .i32 97), .lit (.int .i32 122)], .agg [.lit (.int .i32 192), .lit (.int .i32 214)], .agg [.lit (.int .i32 216), .lit (.int .i32 246)], .agg [.lit (.int .i32 248), .lit (.int .i32 591)], .agg [.lit (.int .i32 902), .lit (.int .i32 902)], .agg [.lit (.int .i32 904), .lit (.int .i32 906)], .agg [.lit (.int .i32 908), .lit (.int .i32 908)], .agg [.lit (.int .i32 910), .lit (.int .i32 929)], .agg [.lit (.int .i32 931), .lit (.int .i32 974)], .agg [.lit (.int .i32 1024), .lit (.int .i32 1153)], .agg [.lit (.int .i32 1162), .lit (.int .i32 1327)], .agg [.lit (.int .i32 1488), .lit (.int .i32 1514)]]
def laid_plover_fold_high {H : Type} : DataW H := .agg [.agg [.lit (.int .i32 19968), .lit (.int .i32 40959)], .agg [.lit (.int .i32 44032), .lit (.int .i32 55203)]]
def laid_plover_fold_moves {H : Type} : DataW H := .agg [.agg [.agg [.lit (.int .i32 65), .lit (.int .i32 90)], .lit (.int .i64 1), .lit (.int .i32 32)], .agg [.agg [.lit (.int .i32 192), .lit (.int .i32 214)], .lit (.int .i64 1), .lit (.int .i32 32)], .agg [.agg [.lit (.int .i32 216), .lit (.int .i32 222)], .lit (.int .i64 1), .lit (.int .i32 32)], .agg [.agg [.lit (.int .i32 256), .lit (.int .i32 311)], .lit (.int .i64 2), .lit (.int .i32 1)], .agg [.agg [.lit (.int .i32 313), .lit (.int .i32 328)], .lit (.int .i64 3), .lit (.int .i32 1)], .agg [.agg [.lit (.int .i32 330), .lit (.int .i32 375)], .lit (.int .i64 2), .lit (.int .i32 1)], .agg [.agg [.lit (.int .i32 376), .lit (.int .i32 376)], .lit (.int .i64 1), .lit (.int .i32 (-121))], .agg [.agg [.lit (.int .i32 377), .lit (.int .i32 382)], .lit (.int .i64 3), .lit (.int .i32 1)], .agg [.agg [.lit (.int .i32 383), .lit (.int .i32 383)], .lit (.int .i64 1), .lit (.int .i32 (-268))], .agg [.agg [.lit (.int .i32 902), .lit (.int .i32 902)], .lit (.int .i64 1), .lit (.int .i32 38)], .agg [.agg [.lit (.int .i32 904), .lit (.int .i32 906)], .lit (.int .i64 1), .lit (.int .i32 37)], .agg [.agg [.lit (.int .i32 908), .lit (.int .i32 908)], .lit (.int .i64 1), .lit (.int .i32 64)], .agg [.agg [.lit (.int .i32 910), .lit (.int .i32 911)], .lit (.int .i64 1), .lit (.int .i32 63)], .agg [.agg [.lit (.int .i32 913), .lit (.int .i32 929)], .lit (.int .i64 1), .lit (.int .i32 32)], .agg [.agg [.lit (.int .i32 931), .lit (.int .i32 939)], .lit (.int .i64 1), .lit (.int .i32 32)], .agg [.agg [.lit (.int .i32 962), .lit (.int .i32 962)], .lit (.int .i64 1), .lit (.int .i32 1)], .agg [.agg [.lit (.int .i32 1024), .lit (.int .i32 1039)], .lit (.int .i64 1), .lit (.int .i32 80)], .agg [.agg [.lit (.int .i32 1040), .lit (.int .i32 1071)], .lit (.int .i64 1), .lit (.int .i32 32)], .agg [.agg [.lit (.int .i32 1120), .lit (.int .i32 1153)], .lit (.int .i64 2), .lit (.int .i32 1)], .agg [.agg [.lit (.int .i32 1162), .lit (.int .i32 1215)], .lit (.int .i64 2), .lit (.int .i32 1)], .agg [.agg [.lit (.int .i32 1232), .lit (.int .i32 1327)], .lit (.int .i64 2), .lit (.int .i32 1)], .agg [.agg [.lit (.int .i32 1632), .lit (.int .i32 1641)], .lit (.int .i64 1), .lit (.int .i32 (-1584))], .agg [.agg [.lit (.int .i32 0), .lit (.int .i32 0)], .lit (.int .i64 0), .lit (.int .i32 0)], .agg [.agg [.lit (.int .i32 0), .lit (.int .i32 0)], .lit (.int .i64 0), .lit (.int .i32 0)]]
def laid_plover_pool_sizes {H : Type} : DataW H := .agg [.lit (.int .i64 4), .lit (.int .i64 16), .lit (.int .i64 64), .lit (.int .i64 256)]

/-- 'ploverlaw12.WritePlays': WHATEVER THE INPUT: true; the input reads as it did. -/
def writePlaysSpec : ChangeSpec := { name := "writePlays", fn := fun _ => fun
  | [d1, d2] => { results := [.lit (.bool true)], args := [d1, d2] }
  | _ => none }
def writePlaysRow : OpenClaim := { program := "ytogdknnkhkjmcaagreatdoor", sum := "a9e183cbfe914c92f342b96fea018c120cd5a272e3d193b572f8734ee59da75d", func := "plover/ploverlaw12.WritePlays", spec := "writePlays", unfollowed := true, recurses := true, named := ["plover/pool.sizes", "plover/fold.high", "plover/fold.letters", "plover/fold.moves"], apart := false, laid := [("plover/fold.letters", laid_plover_fold_letters), ("plover/fold.high", laid_plover_fold_high), ("plover/fold.moves", laid_plover_fold_moves), ("plover/pool.sizes", laid_plover_pool_sizes)] }
def WritePlaysSaid : Prop := writePlaysRow.holds Tryz.pinned (OpenSpec.ofChange writePlaysSpec)

/-- ITS FALSE NEIGHBOUR: 'it returns false'. Refute it at one input. -/
def writePlaysWrong : ChangeSpec := { name := "writePlays", fn := fun _ => fun
  | [d1, d2] => { results := [.lit (.bool false)], args := [d1, d2] }
  | _ => none }
def WritePlaysWrongFalsely : Prop := writePlaysRow.holds Tryz.pinned (OpenSpec.ofChange writePlaysWrong)

/-- 'ploverlaw12.WriteAtOnce': WHATEVER THE INPUT: true; the input reads as it did. -/
def writeAtOnceSpec : ChangeSpec := { name := "writeAtOnce", fn := fun _ => fun
  | [d1, d2] => { results := [.lit (.bool true)], args := [d1, d2] }
  | _ => none }
def writeAtOnceRow : OpenClaim := { program := "ytogdknnkhkjmcaagreatdoor", sum := "a9e183cbfe914c92f342b96fea018c120cd5a272e3d193b572f8734ee59da75d", func := "plover/ploverlaw12.WriteAtOnce", spec := "writeAtOnce", unfollowed := true, recurses := true, named := ["plover/pool.sizes", "plover/fold.high", "plover/fold.letters", "plover/fold.moves"], apart := false, laid := [("plover/fold.letters", laid_plover_fold_letters), ("plover/fold.high", laid_plover_fold_high), ("plover/fold.moves", laid_plover_fold_moves), ("plover/pool.sizes", laid_plover_pool_sizes)] }
def WriteAtOnceSaid : Prop := writeAtOnceRow.holds Tryz.pinned (OpenSpec.ofChange writeAtOnceSpec)

/-- ITS FALSE NEIGHBOUR: 'it returns false'. Refute it at one input. -/
def writeAtOnceWrong : ChangeSpec := { name := "writeAtOnce", fn := fun _ => fun
  | [d1, d2] => { results := [.lit (.bool false)], args := [d1, d2] }
  | _ => none }
def WriteAtOnceWrongFalsely : Prop := writeAtOnceRow.holds Tryz.pinned (OpenSpec.ofChange writeAtOnceWrong)

/-- 'ploverlaw12.WriteRefused': WHATEVER THE INPUT: true; the input reads as it did. -/
def writeRefusedSpec : ChangeSpec := { name := "writeRefused", fn := fun _ => fun
  | [d1, d2] => { results := [.lit (.bool true)], args := [d1, d2] }
  | _ => none }
def writeRefusedRow : OpenClaim := { program := "ytogdknnkhkjmcaagreatdoor", sum := "a9e183cbfe914c92f342b96fea018c120cd5a272e3d193b572f8734ee59da75d", func := "plover/ploverlaw12.WriteRefused", spec := "writeRefused", unfollowed := true, recurses := true, named := ["plover/pool.sizes", "plover/fold.high", "plover/fold.letters", "plover/fold.moves"], apart := false, laid := [("plover/fold.letters", laid_plover_fold_letters), ("plover/fold.high", laid_plover_fold_high), ("plover/fold.moves", laid_plover_fold_moves), ("plover/pool.sizes", laid_plover_pool_sizes)] }
def WriteRefusedSaid : Prop := writeRefusedRow.holds Tryz.pinned (OpenSpec.ofChange writeRefusedSpec)

/-- ITS FALSE NEIGHBOUR: 'it returns false'. Refute it at one input. -/
def writeRefusedWrong : ChangeSpec := { name := "writeRefused", fn := fun _ => fun
  | [d1, d2] => { results := [.lit (.bool false)], args := [d1, d2] }
  | _ => none }
def WriteRefusedWrongFalsely : Prop := writeRefusedRow.holds Tryz.pinned (OpenSpec.ofChange writeRefusedWrong)

/-- 'ploverlaw12.WriteErrors': WHATEVER THE INPUT: true; the input reads as it did. -/
def writeErrorsSpec : ChangeSpec := { name := "writeErrors", fn := fun _ => fun
  | [d1, d2, d3, d4] => { results := [.lit (.bool true)], args := [d1, d2, d3, d4] }
  | _ => none }
def writeErrorsRow : OpenClaim := { program := "ytogdknnkhkjmcaagreatdoor", sum := "a9e183cbfe914c92f342b96fea018c120cd5a272e3d193b572f8734ee59da75d", func := "plover/ploverlaw12.WriteErrors", spec := "writeErrors", unfollowed := true, recurses := true, named := ["plover/pool.sizes", "plover/fold.high", "plover/fold.letters", "plover/fold.moves"], apart := false, laid := [("plover/fold.letters", laid_plover_fold_letters), ("plover/fold.high", laid_plover_fold_high), ("plover/fold.moves", laid_plover_fold_moves), ("plover/pool.sizes", laid_plover_pool_sizes)] }
def WriteErrorsSaid : Prop := writeErrorsRow.holds Tryz.pinned (OpenSpec.ofChange writeErrorsSpec)

/-- ITS FALSE NEIGHBOUR: 'it returns false'. Refute it at one input. -/
def writeErrorsWrong : ChangeSpec := { name := "writeErrors", fn := fun _ => fun
  | [d1, d2, d3, d4] => { results := [.lit (.bool false)], args := [d1, d2, d3, d4] }
  | _ => none }
def WriteErrorsWrongFalsely : Prop := writeErrorsRow.holds Tryz.pinned (OpenSpec.ofChange writeErrorsWrong)

/-- 'ploverlaw12.WriteSegments': WHATEVER THE INPUT: true; the input reads as it did. -/
def writeSegmentsSpec : ChangeSpec := { name := "writeSegments", fn := fun _ => fun
  | [d1, d2, d3] => { results := [.lit (.bool true)], args := [d1, d2, d3] }
  | _ => none }
def writeSegmentsRow : OpenClaim := { program := "ytogdknnkhkjmcaagreatdoor", sum := "a9e183cbfe914c92f342b96fea018c120cd5a272e3d193b572f8734ee59da75d", func := "plover/ploverlaw12.WriteSegments", spec := "writeSegments", unfollowed := true, recurses := true, named := ["plover/pool.sizes", "plover/fold.high", "plover/fold.letters", "plover/fold.moves"], apart := false, laid := [("plover/fold.letters", laid_plover_fold_letters), ("plover/fold.high", laid_plover_fold_high), ("plover/fold.moves", laid_plover_fold_moves), ("plover/pool.sizes", laid_plover_pool_sizes)] }
def WriteSegmentsSaid : Prop := writeSegmentsRow.holds Tryz.pinned (OpenSpec.ofChange writeSegmentsSpec)

/-- ITS FALSE NEIGHBOUR: 'it returns false'. Refute it at one input. -/
def writeSegmentsWrong : ChangeSpec := { name := "writeSegments", fn := fun _ => fun
  | [d1, d2, d3] => { results := [.lit (.bool false)], args := [d1, d2, d3] }
  | _ => none }
def WriteSegmentsWrongFalsely : Prop := writeSegmentsRow.holds Tryz.pinned (OpenSpec.ofChange writeSegmentsWrong)

/-- 'ploverlaw12.WriteEmpty': WHATEVER THE INPUT: true; the input reads as it did. -/
def writeEmptySpec : ChangeSpec := { name := "writeEmpty", fn := fun _ => fun
  | [d1, d2, d3, d4] => { results := [.lit (.bool true)], args := [d1, d2, d3, d4] }
  | _ => none }
def writeEmptyRow : OpenClaim := { program := "ytogdknnkhkjmcaagreatdoor", sum := "a9e183cbfe914c92f342b96fea018c120cd5a272e3d193b572f8734ee59da75d", func := "plover/ploverlaw12.WriteEmpty", spec := "writeEmpty", unfollowed := true, recurses := true, named := ["plover/pool.sizes", "plover/fold.high", "plover/fold.letters", "plover/fold.moves"], apart := false, laid := [("plover/fold.letters", laid_plover_fold_letters), ("plover/fold.high", laid_plover_fold_high), ("plover/fold.moves", laid_plover_fold_moves), ("plover/pool.sizes", laid_plover_pool_sizes)] }
def WriteEmptySaid : Prop := writeEmptyRow.holds Tryz.pinned (OpenSpec.ofChange writeEmptySpec)

/-- ITS FALSE NEIGHBOUR: 'it returns false'. Refute it at one input. -/
def writeEmptyWrong : ChangeSpec := { name := "writeEmpty", fn := fun _ => fun
  | [d1, d2, d3, d4] => { results := [.lit (.bool false)], args := [d1, d2, d3, d4] }
  | _ => none }
def WriteEmptyWrongFalsely : Prop := writeEmptyRow.holds Tryz.pinned (OpenSpec.ofChange writeEmptyWrong)

/- THE SECOND FORM. 'bulk': how many values and letters a reading holds, each counted each time it is reached (what is shared counts as often as it is met; a slice's spare places count too). A statement '..UptoSaid' is the law's where the arguments, and the package variables that the reading takes, are together of bulk at most 1048576: NARROWER than '..Said'. Prove '..Said' where nothing that the law and all that it calls make is longer than what came in: it says more and counts as full. Else prove '..UptoSaid'. A law counts once. -/
mutual
def uptoBulk {H : Type} : DataW H → Nat
  | .lit (.string bytes) => bytes.length + 1
  | .lit _ => 1
  | .nil => 1
  | .ptr d => uptoBulk d + 1
  | .slice elems spare => uptoBulkAll elems + uptoBulkAll spare + 1
  | .agg parts => uptoBulkAll parts + 1
  | .iface _ d => uptoBulk d + 1
  | .map entries => uptoBulkEntries entries + 1
  | .held _ => 1
def uptoBulkAll {H : Type} : List (DataW H) → Nat
  | [] => 0
  | d :: r => uptoBulk d + uptoBulkAll r
def uptoBulkEntries {H : Type} : List (Lit × DataW H) → Nat
  | [] => 0
  | x :: r => uptoBulkEntry x + uptoBulkEntries r
def uptoBulkEntry {H : Type} : Lit × DataW H → Nat
  | (.string bytes, d) => bytes.length + uptoBulk d + 1
  | (_, d) => uptoBulk d + 1
 end
def uptoSmall : (H : Type) → List (DataW H) → Bool := fun _ ds => decide (uptoBulkAll ds ≤ 1048576)
def OpenSpec.upto (s : _root_.Go.ChangeSpec) : _root_.Go.OpenSpec := { _root_.Go.OpenSpec.ofChange s with cond := some uptoSmall }

/-- 'ploverlaw12.WritePlays', WHERE WHAT IT READS IS OF BULK AT MOST 1048576: true; the input reads as it did. -/
def writePlaysUptoRow : OpenClaim := { program := "ytogdknnkhkjmcaagreatdoor", sum := "a9e183cbfe914c92f342b96fea018c120cd5a272e3d193b572f8734ee59da75d", func := "plover/ploverlaw12.WritePlays", spec := "writePlays", unfollowed := true, recurses := true, named := ["plover/pool.sizes", "plover/fold.high", "plover/fold.letters", "plover/fold.moves"], apart := false, laid := [("plover/fold.letters", laid_plover_fold_letters), ("plover/fold.high", laid_plover_fold_high), ("plover/fold.moves", laid_plover_fold_moves), ("plover/pool.sizes", laid_plover_pool_sizes)], narrowed := true }
def WritePlaysUptoSaid : Prop := writePlaysUptoRow.holds Tryz.pinned (OpenSpec.upto writePlaysSpec)

/-- 'ploverlaw12.WriteAtOnce', WHERE WHAT IT READS IS OF BULK AT MOST 1048576: true; the input reads as it did. -/
def writeAtOnceUptoRow : OpenClaim := { program := "ytogdknnkhkjmcaagreatdoor", sum := "a9e183cbfe914c92f342b96fea018c120cd5a272e3d193b572f8734ee59da75d", func := "plover/ploverlaw12.WriteAtOnce", spec := "writeAtOnce", unfollowed := true, recurses := true, named := ["plover/pool.sizes", "plover/fold.high", "plover/fold.letters", "plover/fold.moves"], apart := false, laid := [("plover/fold.letters", laid_plover_fold_letters), ("plover/fold.high", laid_plover_fold_high), ("plover/fold.moves", laid_plover_fold_moves), ("plover/pool.sizes", laid_plover_pool_sizes)], narrowed := true }
def WriteAtOnceUptoSaid : Prop := writeAtOnceUptoRow.holds Tryz.pinned (OpenSpec.upto writeAtOnceSpec)

/-- 'ploverlaw12.WriteRefused', WHERE WHAT IT READS IS OF BULK AT MOST 1048576: true; the input reads as it did. -/
def writeRefusedUptoRow : OpenClaim := { program := "ytogdknnkhkjmcaagreatdoor", sum := "a9e183cbfe914c92f342b96fea018c120cd5a272e3d193b572f8734ee59da75d", func := "plover/ploverlaw12.WriteRefused", spec := "writeRefused", unfollowed := true, recurses := true, named := ["plover/pool.sizes", "plover/fold.high", "plover/fold.letters", "plover/fold.moves"], apart := false, laid := [("plover/fold.letters", laid_plover_fold_letters), ("plover/fold.high", laid_plover_fold_high), ("plover/fold.moves", laid_plover_fold_moves), ("plover/pool.sizes", laid_plover_pool_sizes)], narrowed := true }
def WriteRefusedUptoSaid : Prop := writeRefusedUptoRow.holds Tryz.pinned (OpenSpec.upto writeRefusedSpec)

/-- 'ploverlaw12.WriteErrors', WHERE WHAT IT READS IS OF BULK AT MOST 1048576: true; the input reads as it did. -/
def writeErrorsUptoRow : OpenClaim := { program := "ytogdknnkhkjmcaagreatdoor", sum := "a9e183cbfe914c92f342b96fea018c120cd5a272e3d193b572f8734ee59da75d", func := "plover/ploverlaw12.WriteErrors", spec := "writeErrors", unfollowed := true, recurses := true, named := ["plover/pool.sizes", "plover/fold.high", "plover/fold.letters", "plover/fold.moves"], apart := false, laid := [("plover/fold.letters", laid_plover_fold_letters), ("plover/fold.high", laid_plover_fold_high), ("plover/fold.moves", laid_plover_fold_moves), ("plover/pool.sizes", laid_plover_pool_sizes)], narrowed := true }
def WriteErrorsUptoSaid : Prop := writeErrorsUptoRow.holds Tryz.pinned (OpenSpec.upto writeErrorsSpec)

/-- 'ploverlaw12.WriteSegments', WHERE WHAT IT READS IS OF BULK AT MOST 1048576: true; the input reads as it did. -/
def writeSegmentsUptoRow : OpenClaim := { program := "ytogdknnkhkjmcaagreatdoor", sum := "a9e183cbfe914c92f342b96fea018c120cd5a272e3d193b572f8734ee59da75d", func := "plover/ploverlaw12.WriteSegments", spec := "writeSegments", unfollowed := true, recurses := true, named := ["plover/pool.sizes", "plover/fold.high", "plover/fold.letters", "plover/fold.moves"], apart := false, laid := [("plover/fold.letters", laid_plover_fold_letters), ("plover/fold.high", laid_plover_fold_high), ("plover/fold.moves", laid_plover_fold_moves), ("plover/pool.sizes", laid_plover_pool_sizes)], narrowed := true }
def WriteSegmentsUptoSaid : Prop := writeSegmentsUptoRow.holds Tryz.pinned (OpenSpec.upto writeSegmentsSpec)

/-- 'ploverlaw12.WriteEmpty', WHERE WHAT IT READS IS OF BULK AT MOST 1048576: true; the input reads as it did. -/
def writeEmptyUptoRow : OpenClaim := { program := "ytogdknnkhkjmcaagreatdoor", sum := "a9e183cbfe914c92f342b96fea018c120cd5a272e3d193b572f8734ee59da75d", func := "plover/ploverlaw12.WriteEmpty", spec := "writeEmpty", unfollowed := true, recurses := true, named := ["plover/pool.sizes", "plover/fold.high", "plover/fold.letters", "plover/fold.moves"], apart := false, laid := [("plover/fold.letters", laid_plover_fold_letters), ("plover/fold.high", laid_plover_fold_high), ("plover/fold.moves", laid_plover_fold_moves), ("plover/pool.sizes", laid_plover_pool_sizes)], narrowed := true }
def WriteEmptyUptoSaid : Prop := writeEmptyUptoRow.holds Tryz.pinned (OpenSpec.upto writeEmptySpec)

end Rows
end Go.Proofs.YtogdknnkhkjmcaaGreatDoor
