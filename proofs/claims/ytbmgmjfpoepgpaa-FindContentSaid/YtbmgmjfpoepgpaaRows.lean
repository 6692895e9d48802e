/-
  No cell of these rows narrows 'for every input' (looked for: loops, veiled, ifaces, maps, wideKeys, modest, calm, conditions, laid).
  DERIVED. THE GIVEN ROWS OF THIS SEAT. 5 by the template 'for every input the law returns true; each argument reads behind the call as it read before'; 0 by the template 'total and deterministic' (their statements: YtbmgmjfpoepgpaaTotals.lean).
  GIVEN WITH THE SEED: the statements are not yours to turn. If you find one false, say at which input.
  Laid BY PROGRAM, IN A SANDBOX (cutbox-rows.mjs): the forced cells as the released guide's own fill.sh prints them over the translation 3c267eb88ff6cf46… (all of the seat's roots in one cut). By AI agents, Wed Nov 11 2026. No macro, syntax, notation, axiom, sorry.
-/
import Derived.Test.YtbmgmjfpoepgpaaChecked
import GoSem.Claim
import GoSem.ClaimJoined
import GoSem.ClaimMapViews
import Derived.JoinedTies
import Derived.KernelRfl
namespace Go.Proofs.Ytbmgmjfpoepgpaa
/- THE CELL 'sum', in the pinned program and in every row, IS THE sha256 OF THE DUMP (.gsa) THAT YtbmgmjfpoepgpaaProg.lean LOADS. Nothing in Lean hashes anything: it is a label: what it is worth is what the hold of that sum in a sandbox is worth. -/
noncomputable def Try.pinned : Pinned := { name := "ytbmgmjfpoepgpaa", sum := "3c267eb88ff6cf465f202fb43e349a5ff950026c12841af3212fdab2d570a3a0", checked := Try.checked }
namespace Rows
def none {H : Type} : Left H := { results := [], args := [] }

/-- 'ploverlaw24.AuditOrders': WHATEVER THE INPUT: true; the input reads as it did. -/
def auditOrdersSpec : ChangeSpec := { name := "auditOrders", fn := fun _ => fun
  | [d] => { results := [.lit (.bool true)], args := [d] }
  | _ => none }
def auditOrdersRow : OpenClaim := { program := "ytbmgmjfpoepgpaa", sum := "3c267eb88ff6cf465f202fb43e349a5ff950026c12841af3212fdab2d570a3a0", func := "plover/ploverlaw24.AuditOrders", spec := "auditOrders", unfollowed := true, recurses := true, apart := false }
def AuditOrdersSaid : Prop := auditOrdersRow.holds Try.pinned (OpenSpec.ofChange auditOrdersSpec)

/-- ITS FALSE NEIGHBOUR: 'it returns false'. Refute it at one input. -/
def auditOrdersWrong : ChangeSpec := { name := "auditOrders", fn := fun _ => fun
  | [d] => { results := [.lit (.bool false)], args := [d] }
  | _ => none }
def AuditOrdersWrongFalsely : Prop := auditOrdersRow.holds Try.pinned (OpenSpec.ofChange auditOrdersWrong)

/-- 'ploverlaw24.AuditRespects': WHATEVER THE INPUT: true; the input reads as it did. -/
def auditRespectsSpec : ChangeSpec := { name := "auditRespects", fn := fun _ => fun
  | [d1, d2] => { results := [.lit (.bool true)], args := [d1, d2] }
  | _ => none }
def auditRespectsRow : OpenClaim := { program := "ytbmgmjfpoepgpaa", sum := "3c267eb88ff6cf465f202fb43e349a5ff950026c12841af3212fdab2d570a3a0", func := "plover/ploverlaw24.AuditRespects", spec := "auditRespects", unfollowed := true, recurses := true, apart := false }
def AuditRespectsSaid : Prop := auditRespectsRow.holds Try.pinned (OpenSpec.ofChange auditRespectsSpec)

/-- ITS FALSE NEIGHBOUR: 'it returns false'. Refute it at one input. -/
def auditRespectsWrong : ChangeSpec := { name := "auditRespects", fn := fun _ => fun
  | [d1, d2] => { results := [.lit (.bool false)], args := [d1, d2] }
  | _ => none }
def AuditRespectsWrongFalsely : Prop := auditRespectsRow.holds Try.pinned (OpenSpec.ofChange auditRespectsWrong)

/-- 'ploverlaw15.FindContent': WHATEVER THE INPUT: true; the input reads as it did. -/
def findContentSpec : ChangeSpec := { name := "findContent", fn := fun _ => fun
  | [d1, d2] => { results := [.lit (.bool true)], args := [d1, d2] }
  | _ => none }
def findContentRow : OpenClaim := { program := "ytbmgmjfpoepgpaa", sum := "3c267eb88ff6cf465f202fb43e349a5ff950026c12841af3212fdab2d570a3a0", func := "plover/ploverlaw15.FindContent", spec := "findContent", unfollowed := true, recurses := true, apart := false }
def FindContentSaid : Prop := findContentRow.holds Try.pinned (OpenSpec.ofChange findContentSpec)

/-- ITS FALSE NEIGHBOUR: 'it returns false'. Refute it at one input. -/
def findContentWrong : ChangeSpec := { name := "findContent", fn := fun _ => fun
  | [d1, d2] => { results := [.lit (.bool false)], args := [d1, d2] }
  | _ => none }
def FindContentWrongFalsely : Prop := findContentRow.holds Try.pinned (OpenSpec.ofChange findContentWrong)

/-- 'ploverlaw15.FindLists': WHATEVER THE INPUT: true; the input reads as it did. -/
def findListsSpec : ChangeSpec := { name := "findLists", fn := fun _ => fun
  | [d1, d2, d3] => { results := [.lit (.bool true)], args := [d1, d2, d3] }
  | _ => none }
def findListsRow : OpenClaim := { program := "ytbmgmjfpoepgpaa", sum := "3c267eb88ff6cf465f202fb43e349a5ff950026c12841af3212fdab2d570a3a0", func := "plover/ploverlaw15.FindLists", spec := "findLists", unfollowed := true, recurses := true, apart := false }
def FindListsSaid : Prop := findListsRow.holds Try.pinned (OpenSpec.ofChange findListsSpec)

/-- ITS FALSE NEIGHBOUR: 'it returns false'. Refute it at one input. -/
def findListsWrong : ChangeSpec := { name := "findLists", fn := fun _ => fun
  | [d1, d2, d3] => { results := [.lit (.bool false)], args := [d1, d2, d3] }
  | _ => none }
def FindListsWrongFalsely : Prop := findListsRow.holds Try.pinned (OpenSpec.ofChange findListsWrong)

/-- 'ploverlaw15.FindEnds': WHATEVER THE INPUT: true; the input reads as it did. -/
def findEndsSpec : ChangeSpec := { name := "findEnds", fn := fun _ => fun
  | [d1, d2, d3, d4] => { results := [.lit (.bool true)], args := [d1, d2, d3, d4] }
  | _ => none }
def findEndsRow : OpenClaim := { program := "ytbmgmjfpoepgpaa", sum := "3c267eb88ff6cf465f202fb43e349a5ff950026c12841af3212fdab2d570a3a0", func := "plover/ploverlaw15.FindEnds", spec := "findEnds", unfollowed := true, recurses := true, apart := false }
def FindEndsSaid : Prop := findEndsRow.holds Try.pinned (OpenSpec.ofChange findEndsSpec)

/-- ITS FALSE NEIGHBOUR: 'it returns false'. Refute it at one input. -/
def findEndsWrong : ChangeSpec := { name := "findEnds", fn := fun _ => fun
  | [d1, d2, d3, d4] => { results := [.lit (.bool false)], args := [d1, d2, d3, d4] }
  | _ => none }
def FindEndsWrongFalsely : Prop := findEndsRow.holds Try.pinned (OpenSpec.ofChange findEndsWrong)

/- THE SECOND FORM. 'bulk': how many values and letters a reading holds, each counted each time it is reached (what is shared counts as often as it is met; a slice's spare places count too). A statement '..UptoSaid' is the law's where the arguments, and the package variables that the reading takes, are together of bulk at most 1048576: NARROWER than '..Said'. Prove '..Said' where nothing that the law and all that it calls make is longer than what came in: it says more and counts as full. Else prove '..UptoSaid'. A law counts once. -/
mutual
def uptoBulk {H : Type} : DataW H → Nat
  | .lit (.string bytes) => bytes.length + 1
  | .lit _ => 1
  | .nil => 1
  | .ptr d => uptoBulk d + 1
  | .slice elems spare => uptoBulkAll elems + uptoBulkAll spare + 1
  | .agg parts => uptoBulkAll parts + 1
  | .iface _ d => uptoBulk d + 1
  | .map entries => uptoBulkEntries entries + 1
  | .held _ => 1
def uptoBulkAll {H : Type} : List (DataW H) → Nat
  | [] => 0
  | d :: r => uptoBulk d + uptoBulkAll r
def uptoBulkEntries {H : Type} : List (Lit × DataW H) → Nat
  | [] => 0
  | x :: r => uptoBulkEntry x + uptoBulkEntries r
def uptoBulkEntry {H : Type} : Lit × DataW H → Nat
  | (.string bytes, d) => bytes.length + uptoBulk d + 1
  | (_, d) => uptoBulk d + 1
 end
def uptoSmall : (H : Type) → List (DataW H) → Bool := fun _ ds => decide (uptoBulkAll ds ≤ 1048576)
def OpenSpec.upto (s : _root_.Go.ChangeSpec) : _root_.Go.OpenSpec := { _root_.Go.OpenSpec.ofChange s with cond := some uptoSmall }

/-- 'ploverlaw24.AuditOrders', WHERE WHAT IT READS IS OF BULK AT MOST 1048576: true; the input reads as it did. -/
def auditOrdersUptoRow : OpenClaim := { program := "ytbmgmjfpoepgpaa", sum := "3c267eb88ff6cf465f202fb43e349a5ff950026c12841af3212fdab2d570a3a0", func := "plover/ploverlaw24.AuditOrders", spec := "auditOrders", unfollowed := true, recurses := true, apart := false, narrowed := true }
def AuditOrdersUptoSaid : Prop := auditOrdersUptoRow.holds Try.pinned (OpenSpec.upto auditOrdersSpec)

/-- 'ploverlaw24.AuditRespects', WHERE WHAT IT READS IS OF BULK AT MOST 1048576: true; the input reads as it did. -/
def auditRespectsUptoRow : OpenClaim := { program := "ytbmgmjfpoepgpaa", sum := "3c267eb88ff6cf465f202fb43e349a5ff950026c12841af3212fdab2d570a3a0", func := "plover/ploverlaw24.AuditRespects", spec := "auditRespects", unfollowed := true, recurses := true, apart := false, narrowed := true }
def AuditRespectsUptoSaid : Prop := auditRespectsUptoRow.holds Try.pinned (OpenSpec.upto auditRespectsSpec)

/-- 'ploverlaw15.FindContent', WHERE WHAT IT READS IS OF BULK AT MOST 1048576: true; the input reads as it did. -/
def findContentUptoRow : OpenClaim := { program := "ytbmgmjfpoepgpaa", sum := "3c267eb88ff6cf465f202fb43e349a5ff950026c12841af3212fdab2d570a3a0", func := "plover/ploverlaw15.FindContent", spec := "findContent", unfollowed := true, recurses := true, apart := false, narrowed := true }
def FindContentUptoSaid : Prop := findContentUptoRow.holds Try.pinned (OpenSpec.upto findContentSpec)

/-- 'ploverlaw15.FindLists', WHERE WHAT IT READS IS OF BULK AT MOST 1048576: true; the input reads as it did. -/
def findListsUptoRow : OpenClaim := { program := "ytbmgmjfpoepgpaa", sum := "3c267eb88ff6cf465f202fb43e349a5ff950026c12841af3212fdab2d570a3a0", func := "plover/ploverlaw15.FindLists", spec := "findLists", unfollowed := true, recurses := true, apart := false, narrowed := true }
def FindListsUptoSaid : Prop := findListsUptoRow.holds Try.pinned (OpenSpec.upto findListsSpec)

/-- 'ploverlaw15.FindEnds', WHERE WHAT IT READS IS OF BULK AT MOST 1048576: true; the input reads as it did. -/
def findEndsUptoRow : OpenClaim := { program := "ytbmgmjfpoepgpaa", sum := "3c267eb88ff6cf465f202fb43e349a5ff950026c12841af3212fdab2d570a3a0", func := "plover/ploverlaw15.FindEnds", spec := "findEnds", unfollowed := true, recurses := true, apart := false, narrowed := true }
def FindEndsUptoSaid : Prop := findEndsUptoRow.holds Try.pinned (OpenSpec.upto findEndsSpec)

end Rows
end Go.Proofs.Ytbmgmjfpoepgpaa
