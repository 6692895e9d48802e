/-
  DERIVED. GIVEN WITH THE SEED: THE PROGRAM's TIES (one call each: nine closed facts by the kernel) AND EACH ROW's TIE, after the 31st guide's Derived/Test/Toyas{Tie, Card}.lean. No idea stands in it: it is a product of the set-up. Laid BY PROGRAM, IN A SANDBOX (cutbox-door.mjs). By AI agents, Wed Nov 11 2026. No macro, syntax, notation, axiom, sorry.
-/
import Derived.Test.YtbmgmjfpoepgpaaDoorRows
import Derived.LaidByTextLater
import Derived.SevenTiedAt
import Derived.LaidSub
import Derived.LaidOnce
namespace Go.Proofs.YtbmgmjfpoepgpaaDoor
open Go
set_option maxRecDepth 100000
theorem seatTie1 : Tryd.prog.laidByTextLater [("plover/fold.letters", Rows.laid_plover_fold_letters), ("plover/fold.high", Rows.laid_plover_fold_high), ("plover/fold.moves", Rows.laid_plover_fold_moves), ("plover/pool.sizes", Rows.laid_plover_pool_sizes)] [.data, .data, .data, .data] true :=
  Program.laidByTextLater_by_one 88 8 97 (by kernel_rfl) (by kernel_rfl) (by kernel_rfl) (by kernel_rfl) (by kernel_rfl) (by kernel_rfl) (fun _ _ => by kernel_rfl)
theorem noOwnUnsafe : Tryd.pinned.checked.prog.headLifts.contains "ownunsafe" = false := by kernel_rfl
theorem tie : Tryd.prog.laidByTextLater [("plover/pool.sizes", Rows.laid_plover_pool_sizes)] [.data] true :=
  Program.laidByTextLater.sub seatTie1 ["plover/pool.sizes"] (by kernel_rfl) (by kernel_rfl)
theorem postBack_row_tie : Rows.postBackRow.laidByTextAt .later Tryd.pinned [.data] true :=
  OpenClaim.laidByTextAt_later rfl rfl tie noOwnUnsafe
theorem postNeeds_row_tie : Rows.postNeedsRow.laidByTextAt .later Tryd.pinned [.data] true :=
  OpenClaim.laidByTextAt_later rfl rfl tie noOwnUnsafe
theorem postUndisturbed_row_tie : Rows.postUndisturbedRow.laidByTextAt .later Tryd.pinned [.data] true :=
  OpenClaim.laidByTextAt_later rfl rfl tie noOwnUnsafe
theorem tie2 : Tryd.prog.laidByTextLater [("plover/fold.letters", Rows.laid_plover_fold_letters), ("plover/fold.high", Rows.laid_plover_fold_high), ("plover/fold.moves", Rows.laid_plover_fold_moves)] [.data, .data, .data] true :=
  Program.laidByTextLater.sub seatTie1 ["plover/fold.letters", "plover/fold.high", "plover/fold.moves"] (by kernel_rfl) (by kernel_rfl)
theorem queryBlanks_row_tie : Rows.queryBlanksRow.laidByTextAt .later Tryd.pinned [.data, .data, .data] true :=
  OpenClaim.laidByTextAt_later rfl rfl tie2 noOwnUnsafe
theorem queryCase_row_tie : Rows.queryCaseRow.laidByTextAt .later Tryd.pinned [.data, .data, .data] true :=
  OpenClaim.laidByTextAt_later rfl rfl tie2 noOwnUnsafe
theorem queryNests_row_tie : Rows.queryNestsRow.laidByTextAt .later Tryd.pinned [.data, .data, .data] true :=
  OpenClaim.laidByTextAt_later rfl rfl tie2 noOwnUnsafe
theorem postBackUpto_row_tie : Rows.postBackUptoRow.laidByTextAt .later Tryd.pinned [.data] true :=
  OpenClaim.laidByTextAt_later rfl rfl tie noOwnUnsafe
theorem postNeedsUpto_row_tie : Rows.postNeedsUptoRow.laidByTextAt .later Tryd.pinned [.data] true :=
  OpenClaim.laidByTextAt_later rfl rfl tie noOwnUnsafe
theorem postUndisturbedUpto_row_tie : Rows.postUndisturbedUptoRow.laidByTextAt .later Tryd.pinned [.data] true :=
  OpenClaim.laidByTextAt_later rfl rfl tie noOwnUnsafe
theorem queryBlanksUpto_row_tie : Rows.queryBlanksUptoRow.laidByTextAt .later Tryd.pinned [.data, .data, .data] true :=
  OpenClaim.laidByTextAt_later rfl rfl tie2 noOwnUnsafe
theorem queryCaseUpto_row_tie : Rows.queryCaseUptoRow.laidByTextAt .later Tryd.pinned [.data, .data, .data] true :=
  OpenClaim.laidByTextAt_later rfl rfl tie2 noOwnUnsafe
theorem queryNestsUpto_row_tie : Rows.queryNestsUptoRow.laidByTextAt .later Tryd.pinned [.data, .data, .data] true :=
  OpenClaim.laidByTextAt_later rfl rfl tie2 noOwnUnsafe
end Go.Proofs.YtbmgmjfpoepgpaaDoor
