/- Layer 17 (query): finished. -/
import Derived.Test.YtbepgbkbpkaodaaDoorQryG
namespace Go.Proofs.YtbepgbkbpkaodaaDoor
open Go.RowKit

set_option maxRecDepth 100000 in
set_option maxHeartbeats 1000000 in
theorem query_finished (k f : Int) (A1 A2 : Option Addr) (n1 c1 n2 c2 : Nat) (li o : Int) (w : World) : Calls Tryd.prog 28 #[.agg #[.int .i64 k, .int .u8 f, .slice A1 n1 c1, .slice A2 n2 c2, .int .i64 li, .int .i64 o]] w fun e w' => e = .returned (.agg #[.int .i64 k, .int .u8 f, .slice A1 n1 c1, .slice A2 n2 c2, .int .i64 (if li < 0 then 10 else li), .int .i64 (max o 0)]) ∧ Keeps (· < w.heap.size) w w' := by
  refine calls_hide fun R' hR' => ?_
  go_enter Tryd.func28, Tryd.ntmps28
  by_cases h1 : li < 0
  all_goals go_wp2_with fail
  all_goals refine bodyPost_ret (results_cell_row rfl _ _ (w.heap.size + 1) 28 _ _ _ rfl (heap_alloc2_new w _ _) Tryd.underlying28 rfl (by kernel_rfl)) rfl ?_
  all_goals refine hR'.out _ _ ⟨?_, ((Keeps.refl _ _).alloc (fun b hb => hb) _).alloc (fun b hb => by simp; omega) _⟩
  all_goals first | (rw [if_pos h1]) | (rw [if_neg (by omega)])
  all_goals (congr; omega)
end Go.Proofs.YtbepgbkbpkaodaaDoor
