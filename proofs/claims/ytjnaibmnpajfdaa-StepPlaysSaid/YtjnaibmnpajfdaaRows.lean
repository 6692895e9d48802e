/-
  No cell of these rows narrows 'for every input' (looked for: loops, veiled, ifaces, maps, wideKeys, modest, calm, conditions, laid).
  DERIVED. THE GIVEN ROWS OF THIS SEAT. 10 by the template 'for every input the law returns true; each argument reads behind the call as it read before'; 0 by the template 'total and deterministic' (their statements: YtjnaibmnpajfdaaTotals.lean).
  GIVEN WITH THE SEED: the statements are not yours to turn. If you find one false, say at which input.
  Laid BY PROGRAM, IN A SANDBOX (cutbox-rows.mjs): the forced cells as the released guide's own fill.sh prints them over the translation 60d558247755cdc3… (all of the seat's roots in one cut). By AI agents, Wed Nov 11 2026. No macro, syntax, notation, axiom, sorry.
-/
import Derived.Test.YtjnaibmnpajfdaaChecked
import GoSem.Claim
import GoSem.ClaimJoined
import GoSem.ClaimMapViews
import Derived.JoinedTies
import Derived.KernelRfl
namespace Go.Proofs.Ytjnaibmnpajfdaa
/- THE CELL 'sum', in the pinned program and in every row, IS THE sha256 OF THE DUMP (.gsa) THAT YtjnaibmnpajfdaaProg.lean LOADS. Nothing in Lean hashes anything: it is a label: what it is worth is what the hold of that sum in a sandbox is worth. -/
noncomputable def Try.pinned : Pinned := { name := "ytjnaibmnpajfdaa", sum := "60d558247755cdc351ea66627ab38104ed4446d8bf3dc33bcb5ed5631db81563", checked := Try.checked }
namespace Rows
def none {H : Type} : Left H := { results := [], args := [] }

/-- 'ploverlaw03.StepOne': WHATEVER THE INPUT: true; the input reads as it did. -/
def stepOneSpec : ChangeSpec := { name := "stepOne", fn := fun _ => fun
  | [d1, d2, d3] => { results := [.lit (.bool true)], args := [d1, d2, d3] }
  | _ => none }
def stepOneRow : OpenClaim := { program := "ytjnaibmnpajfdaa", sum := "60d558247755cdc351ea66627ab38104ed4446d8bf3dc33bcb5ed5631db81563", func := "plover/ploverlaw03.StepOne", spec := "stepOne", unfollowed := true, recurses := true, apart := false }
def StepOneSaid : Prop := stepOneRow.holds Try.pinned (OpenSpec.ofChange stepOneSpec)

/-- ITS FALSE NEIGHBOUR: 'it returns false'. Refute it at one input. -/
def stepOneWrong : ChangeSpec := { name := "stepOne", fn := fun _ => fun
  | [d1, d2, d3] => { results := [.lit (.bool false)], args := [d1, d2, d3] }
  | _ => none }
def StepOneWrongFalsely : Prop := stepOneRow.holds Try.pinned (OpenSpec.ofChange stepOneWrong)

/-- 'ploverlaw03.StepOutside': WHATEVER THE INPUT: true; the input reads as it did. -/
def stepOutsideSpec : ChangeSpec := { name := "stepOutside", fn := fun _ => fun
  | [d1, d2, d3, d4] => { results := [.lit (.bool true)], args := [d1, d2, d3, d4] }
  | _ => none }
def stepOutsideRow : OpenClaim := { program := "ytjnaibmnpajfdaa", sum := "60d558247755cdc351ea66627ab38104ed4446d8bf3dc33bcb5ed5631db81563", func := "plover/ploverlaw03.StepOutside", spec := "stepOutside", unfollowed := true, recurses := true, apart := false }
def StepOutsideSaid : Prop := stepOutsideRow.holds Try.pinned (OpenSpec.ofChange stepOutsideSpec)

/-- ITS FALSE NEIGHBOUR: 'it returns false'. Refute it at one input. -/
def stepOutsideWrong : ChangeSpec := { name := "stepOutside", fn := fun _ => fun
  | [d1, d2, d3, d4] => { results := [.lit (.bool false)], args := [d1, d2, d3, d4] }
  | _ => none }
def StepOutsideWrongFalsely : Prop := stepOutsideRow.holds Try.pinned (OpenSpec.ofChange stepOutsideWrong)

/-- 'ploverlaw03.StepPlays': WHATEVER THE INPUT: true; the input reads as it did. -/
def stepPlaysSpec : ChangeSpec := { name := "stepPlays", fn := fun _ => fun
  | [d1, d2, d3] => { results := [.lit (.bool true)], args := [d1, d2, d3] }
  | _ => none }
def stepPlaysRow : OpenClaim := { program := "ytjnaibmnpajfdaa", sum := "60d558247755cdc351ea66627ab38104ed4446d8bf3dc33bcb5ed5631db81563", func := "plover/ploverlaw03.StepPlays", spec := "stepPlays", unfollowed := true, recurses := true, apart := false }
def StepPlaysSaid : Prop := stepPlaysRow.holds Try.pinned (OpenSpec.ofChange stepPlaysSpec)

/-- ITS FALSE NEIGHBOUR: 'it returns false'. Refute it at one input. -/
def stepPlaysWrong : ChangeSpec := { name := "stepPlays", fn := fun _ => fun
  | [d1, d2, d3] => { results := [.lit (.bool false)], args := [d1, d2, d3] }
  | _ => none }
def StepPlaysWrongFalsely : Prop := stepPlaysRow.holds Try.pinned (OpenSpec.ofChange stepPlaysWrong)

/-- 'ploverlaw03.StepAlone': WHATEVER THE INPUT: true; the input reads as it did. -/
def stepAloneSpec : ChangeSpec := { name := "stepAlone", fn := fun _ => fun
  | [d1, d2] => { results := [.lit (.bool true)], args := [d1, d2] }
  | _ => none }
def stepAloneRow : OpenClaim := { program := "ytjnaibmnpajfdaa", sum := "60d558247755cdc351ea66627ab38104ed4446d8bf3dc33bcb5ed5631db81563", func := "plover/ploverlaw03.StepAlone", spec := "stepAlone", unfollowed := true, recurses := true, apart := false }
def StepAloneSaid : Prop := stepAloneRow.holds Try.pinned (OpenSpec.ofChange stepAloneSpec)

/-- ITS FALSE NEIGHBOUR: 'it returns false'. Refute it at one input. -/
def stepAloneWrong : ChangeSpec := { name := "stepAlone", fn := fun _ => fun
  | [d1, d2] => { results := [.lit (.bool false)], args := [d1, d2] }
  | _ => none }
def StepAloneWrongFalsely : Prop := stepAloneRow.holds Try.pinned (OpenSpec.ofChange stepAloneWrong)

/-- 'ploverlaw03.StepApart': WHATEVER THE INPUT: true; the input reads as it did. -/
def stepApartSpec : ChangeSpec := { name := "stepApart", fn := fun _ => fun
  | [d1, d2, d3, d4] => { results := [.lit (.bool true)], args := [d1, d2, d3, d4] }
  | _ => none }
def stepApartRow : OpenClaim := { program := "ytjnaibmnpajfdaa", sum := "60d558247755cdc351ea66627ab38104ed4446d8bf3dc33bcb5ed5631db81563", func := "plover/ploverlaw03.StepApart", spec := "stepApart", unfollowed := true, recurses := true, apart := false }
def StepApartSaid : Prop := stepApartRow.holds Try.pinned (OpenSpec.ofChange stepApartSpec)

/-- ITS FALSE NEIGHBOUR: 'it returns false'. Refute it at one input. -/
def stepApartWrong : ChangeSpec := { name := "stepApart", fn := fun _ => fun
  | [d1, d2, d3, d4] => { results := [.lit (.bool false)], args := [d1, d2, d3, d4] }
  | _ => none }
def StepApartWrongFalsely : Prop := stepApartRow.holds Try.pinned (OpenSpec.ofChange stepApartWrong)

/-- 'ploverlaw11.TableFinds': WHATEVER THE INPUT: true; the input reads as it did. -/
def tableFindsSpec : ChangeSpec := { name := "tableFinds", fn := fun _ => fun
  | [d1, d2, d3] => { results := [.lit (.bool true)], args := [d1, d2, d3] }
  | _ => none }
def tableFindsRow : OpenClaim := { program := "ytjnaibmnpajfdaa", sum := "60d558247755cdc351ea66627ab38104ed4446d8bf3dc33bcb5ed5631db81563", func := "plover/ploverlaw11.TableFinds", spec := "tableFinds", unfollowed := true, recurses := true, apart := false }
def TableFindsSaid : Prop := tableFindsRow.holds Try.pinned (OpenSpec.ofChange tableFindsSpec)

/-- ITS FALSE NEIGHBOUR: 'it returns false'. Refute it at one input. -/
def tableFindsWrong : ChangeSpec := { name := "tableFinds", fn := fun _ => fun
  | [d1, d2, d3] => { results := [.lit (.bool false)], args := [d1, d2, d3] }
  | _ => none }
def TableFindsWrongFalsely : Prop := tableFindsRow.holds Try.pinned (OpenSpec.ofChange tableFindsWrong)

/-- 'ploverlaw11.TableVersions': WHATEVER THE INPUT: true; the input reads as it did. -/
def tableVersionsSpec : ChangeSpec := { name := "tableVersions", fn := fun _ => fun
  | [d] => { results := [.lit (.bool true)], args := [d] }
  | _ => none }
def tableVersionsRow : OpenClaim := { program := "ytjnaibmnpajfdaa", sum := "60d558247755cdc351ea66627ab38104ed4446d8bf3dc33bcb5ed5631db81563", func := "plover/ploverlaw11.TableVersions", spec := "tableVersions", unfollowed := true, recurses := true, apart := false }
def TableVersionsSaid : Prop := tableVersionsRow.holds Try.pinned (OpenSpec.ofChange tableVersionsSpec)

/-- ITS FALSE NEIGHBOUR: 'it returns false'. Refute it at one input. -/
def tableVersionsWrong : ChangeSpec := { name := "tableVersions", fn := fun _ => fun
  | [d] => { results := [.lit (.bool false)], args := [d] }
  | _ => none }
def TableVersionsWrongFalsely : Prop := tableVersionsRow.holds Try.pinned (OpenSpec.ofChange tableVersionsWrong)

/-- 'ploverlaw10.DictUndisturbed': WHATEVER THE INPUT: true; the input reads as it did. -/
def dictUndisturbedSpec : ChangeSpec := { name := "dictUndisturbed", fn := fun _ => fun
  | [d1, d2, d3, d4] => { results := [.lit (.bool true)], args := [d1, d2, d3, d4] }
  | _ => none }
def dictUndisturbedRow : OpenClaim := { program := "ytjnaibmnpajfdaa", sum := "60d558247755cdc351ea66627ab38104ed4446d8bf3dc33bcb5ed5631db81563", func := "plover/ploverlaw10.DictUndisturbed", spec := "dictUndisturbed", unfollowed := true, recurses := true, apart := false }
def DictUndisturbedSaid : Prop := dictUndisturbedRow.holds Try.pinned (OpenSpec.ofChange dictUndisturbedSpec)

/-- ITS FALSE NEIGHBOUR: 'it returns false'. Refute it at one input. -/
def dictUndisturbedWrong : ChangeSpec := { name := "dictUndisturbed", fn := fun _ => fun
  | [d1, d2, d3, d4] => { results := [.lit (.bool false)], args := [d1, d2, d3, d4] }
  | _ => none }
def DictUndisturbedWrongFalsely : Prop := dictUndisturbedRow.holds Try.pinned (OpenSpec.ofChange dictUndisturbedWrong)

/-- 'ploverlaw10.DictTails': WHATEVER THE INPUT: true; the input reads as it did. -/
def dictTailsSpec : ChangeSpec := { name := "dictTails", fn := fun _ => fun
  | [d1, d2] => { results := [.lit (.bool true)], args := [d1, d2] }
  | _ => none }
def dictTailsRow : OpenClaim := { program := "ytjnaibmnpajfdaa", sum := "60d558247755cdc351ea66627ab38104ed4446d8bf3dc33bcb5ed5631db81563", func := "plover/ploverlaw10.DictTails", spec := "dictTails", unfollowed := true, recurses := true, apart := false }
def DictTailsSaid : Prop := dictTailsRow.holds Try.pinned (OpenSpec.ofChange dictTailsSpec)

/-- ITS FALSE NEIGHBOUR: 'it returns false'. Refute it at one input. -/
def dictTailsWrong : ChangeSpec := { name := "dictTails", fn := fun _ => fun
  | [d1, d2] => { results := [.lit (.bool false)], args := [d1, d2] }
  | _ => none }
def DictTailsWrongFalsely : Prop := dictTailsRow.holds Try.pinned (OpenSpec.ofChange dictTailsWrong)

/-- 'ploverlaw10.DictFound': WHATEVER THE INPUT: true; the input reads as it did. -/
def dictFoundSpec : ChangeSpec := { name := "dictFound", fn := fun _ => fun
  | [d1, d2] => { results := [.lit (.bool true)], args := [d1, d2] }
  | _ => none }
def dictFoundRow : OpenClaim := { program := "ytjnaibmnpajfdaa", sum := "60d558247755cdc351ea66627ab38104ed4446d8bf3dc33bcb5ed5631db81563", func := "plover/ploverlaw10.DictFound", spec := "dictFound", unfollowed := true, recurses := true, apart := false }
def DictFoundSaid : Prop := dictFoundRow.holds Try.pinned (OpenSpec.ofChange dictFoundSpec)

/-- ITS FALSE NEIGHBOUR: 'it returns false'. Refute it at one input. -/
def dictFoundWrong : ChangeSpec := { name := "dictFound", fn := fun _ => fun
  | [d1, d2] => { results := [.lit (.bool false)], args := [d1, d2] }
  | _ => none }
def DictFoundWrongFalsely : Prop := dictFoundRow.holds Try.pinned (OpenSpec.ofChange dictFoundWrong)

/- THE SECOND FORM. 'bulk': how many values and letters a reading holds, each counted each time it is reached (what is shared counts as often as it is met; a slice's spare places count too). A statement '..UptoSaid' is the law's where the arguments, and the package variables that the reading takes, are together of bulk at most 1048576: NARROWER than '..Said'. Prove '..Said' where nothing that the law and all that it calls make is longer than what came in: it says more and counts as full. Else prove '..UptoSaid'. A law counts once. -/
mutual
def uptoBulk {H : Type} : DataW H → Nat
  | .lit (.string bytes) => bytes.length + 1
  | .lit _ => 1
  | .nil => 1
  | .ptr d => uptoBulk d + 1
  | .slice elems spare => uptoBulkAll elems + uptoBulkAll spare + 1
  | .agg parts => uptoBulkAll parts + 1
  | .iface _ d => uptoBulk d + 1
  | .map entries => uptoBulkEntries entries + 1
  | .held _ => 1
def uptoBulkAll {H : Type} : List (DataW H) → Nat
  | [] => 0
  | d :: r => uptoBulk d + uptoBulkAll r
def uptoBulkEntries {H : Type} : List (Lit × DataW H) → Nat
  | [] => 0
  | x :: r => uptoBulkEntry x + uptoBulkEntries r
def uptoBulkEntry {H : Type} : Lit × DataW H → Nat
  | (.string bytes, d) => bytes.length + uptoBulk d + 1
  | (_, d) => uptoBulk d + 1
 end
def uptoSmall : (H : Type) → List (DataW H) → Bool := fun _ ds => decide (uptoBulkAll ds ≤ 1048576)
def OpenSpec.upto (s : _root_.Go.ChangeSpec) : _root_.Go.OpenSpec := { _root_.Go.OpenSpec.ofChange s with cond := some uptoSmall }

/-- 'ploverlaw03.StepOne', WHERE WHAT IT READS IS OF BULK AT MOST 1048576: true; the input reads as it did. -/
def stepOneUptoRow : OpenClaim := { program := "ytjnaibmnpajfdaa", sum := "60d558247755cdc351ea66627ab38104ed4446d8bf3dc33bcb5ed5631db81563", func := "plover/ploverlaw03.StepOne", spec := "stepOne", unfollowed := true, recurses := true, apart := false, narrowed := true }
def StepOneUptoSaid : Prop := stepOneUptoRow.holds Try.pinned (OpenSpec.upto stepOneSpec)

/-- 'ploverlaw03.StepOutside', WHERE WHAT IT READS IS OF BULK AT MOST 1048576: true; the input reads as it did. -/
def stepOutsideUptoRow : OpenClaim := { program := "ytjnaibmnpajfdaa", sum := "60d558247755cdc351ea66627ab38104ed4446d8bf3dc33bcb5ed5631db81563", func := "plover/ploverlaw03.StepOutside", spec := "stepOutside", unfollowed := true, recurses := true, apart := false, narrowed := true }
def StepOutsideUptoSaid : Prop := stepOutsideUptoRow.holds Try.pinned (OpenSpec.upto stepOutsideSpec)

/-- 'ploverlaw03.StepPlays', WHERE WHAT IT READS IS OF BULK AT MOST 1048576: true; the input reads as it did. -/
def stepPlaysUptoRow : OpenClaim := { program := "ytjnaibmnpajfdaa", sum := "60d558247755cdc351ea66627ab38104ed4446d8bf3dc33bcb5ed5631db81563", func := "plover/ploverlaw03.StepPlays", spec := "stepPlays", unfollowed := true, recurses := true, apart := false, narrowed := true }
def StepPlaysUptoSaid : Prop := stepPlaysUptoRow.holds Try.pinned (OpenSpec.upto stepPlaysSpec)

/-- 'ploverlaw03.StepAlone', WHERE WHAT IT READS IS OF BULK AT MOST 1048576: true; the input reads as it did. -/
def stepAloneUptoRow : OpenClaim := { program := "ytjnaibmnpajfdaa", sum := "60d558247755cdc351ea66627ab38104ed4446d8bf3dc33bcb5ed5631db81563", func := "plover/ploverlaw03.StepAlone", spec := "stepAlone", unfollowed := true, recurses := true, apart := false, narrowed := true }
def StepAloneUptoSaid : Prop := stepAloneUptoRow.holds Try.pinned (OpenSpec.upto stepAloneSpec)

/-- 'ploverlaw03.StepApart', WHERE WHAT IT READS IS OF BULK AT MOST 1048576: true; the input reads as it did. -/
def stepApartUptoRow : OpenClaim := { program := "ytjnaibmnpajfdaa", sum := "60d558247755cdc351ea66627ab38104ed4446d8bf3dc33bcb5ed5631db81563", func := "plover/ploverlaw03.StepApart", spec := "stepApart", unfollowed := true, recurses := true, apart := false, narrowed := true }
def StepApartUptoSaid : Prop := stepApartUptoRow.holds Try.pinned (OpenSpec.upto stepApartSpec)

/-- 'ploverlaw11.TableFinds', WHERE WHAT IT READS IS OF BULK AT MOST 1048576: true; the input reads as it did. -/
def tableFindsUptoRow : OpenClaim := { program := "ytjnaibmnpajfdaa", sum := "60d558247755cdc351ea66627ab38104ed4446d8bf3dc33bcb5ed5631db81563", func := "plover/ploverlaw11.TableFinds", spec := "tableFinds", unfollowed := true, recurses := true, apart := false, narrowed := true }
def TableFindsUptoSaid : Prop := tableFindsUptoRow.holds Try.pinned (OpenSpec.upto tableFindsSpec)

/-- 'ploverlaw11.TableVersions', WHERE WHAT IT READS IS OF BULK AT MOST 1048576: true; the input reads as it did. -/
def tableVersionsUptoRow : OpenClaim := { program := "ytjnaibmnpajfdaa", sum := "60d558247755cdc351ea66627ab38104ed4446d8bf3dc33bcb5ed5631db81563", func := "plover/ploverlaw11.TableVersions", spec := "tableVersions", unfollowed := true, recurses := true, apart := false, narrowed := true }
def TableVersionsUptoSaid : Prop := tableVersionsUptoRow.holds Try.pinned (OpenSpec.upto tableVersionsSpec)

/-- 'ploverlaw10.DictUndisturbed', WHERE WHAT IT READS IS OF BULK AT MOST 1048576: true; the input reads as it did. -/
def dictUndisturbedUptoRow : OpenClaim := { program := "ytjnaibmnpajfdaa", sum := "60d558247755cdc351ea66627ab38104ed4446d8bf3dc33bcb5ed5631db81563", func := "plover/ploverlaw10.DictUndisturbed", spec := "dictUndisturbed", unfollowed := true, recurses := true, apart := false, narrowed := true }
def DictUndisturbedUptoSaid : Prop := dictUndisturbedUptoRow.holds Try.pinned (OpenSpec.upto dictUndisturbedSpec)

/-- 'ploverlaw10.DictTails', WHERE WHAT IT READS IS OF BULK AT MOST 1048576: true; the input reads as it did. -/
def dictTailsUptoRow : OpenClaim := { program := "ytjnaibmnpajfdaa", sum := "60d558247755cdc351ea66627ab38104ed4446d8bf3dc33bcb5ed5631db81563", func := "plover/ploverlaw10.DictTails", spec := "dictTails", unfollowed := true, recurses := true, apart := false, narrowed := true }
def DictTailsUptoSaid : Prop := dictTailsUptoRow.holds Try.pinned (OpenSpec.upto dictTailsSpec)

/-- 'ploverlaw10.DictFound', WHERE WHAT IT READS IS OF BULK AT MOST 1048576: true; the input reads as it did. -/
def dictFoundUptoRow : OpenClaim := { program := "ytjnaibmnpajfdaa", sum := "60d558247755cdc351ea66627ab38104ed4446d8bf3dc33bcb5ed5631db81563", func := "plover/ploverlaw10.DictFound", spec := "dictFound", unfollowed := true, recurses := true, apart := false, narrowed := true }
def DictFoundUptoSaid : Prop := dictFoundUptoRow.holds Try.pinned (OpenSpec.upto dictFoundSpec)

end Rows
end Go.Proofs.Ytjnaibmnpajfdaa
