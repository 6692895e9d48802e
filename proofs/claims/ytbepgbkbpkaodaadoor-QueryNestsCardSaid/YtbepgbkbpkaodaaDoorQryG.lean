/- Layer 17 (query): several. -/
import Derived.Test.YtbepgbkbpkaodaaDoorQryF
namespace Go.Proofs.YtbepgbkbpkaodaaDoor
open Go.RowKit

set_option maxRecDepth 100000 in
set_option maxHeartbeats 1000000 in
theorem query_several (kind : Int) (g cp n : Nat) (k f : Int) (A1 A2 : Option Addr) (n1 c1 n2 c2 : Nat) (w : World) (hn : 0 < n) (hg : g < w.heap.size) (hr : w.rangeAt g 0 [.int .i64 k, .int .u8 f, .slice A1 n1 c1, .slice A2 n2 c2]) : Calls Tryd.prog 40 #[.int .i64 kind, .slice (some ⟨g, 0, none⟩) n cp] w fun e w' => e = .returned (.agg (if n = 1 then #[.int .i64 k, .int .u8 f, .slice A1 n1 c1, .slice A2 n2 c2] else #[.int .i64 kind, .int .u8 0, .slice none 0 0, .slice (some ⟨g, 0, none⟩) n cp])) ∧ Keeps (· < w.heap.size) w w' := by
  have x0 := hr 0 _ rfl
  have x1 := hr 1 _ rfl
  have x2 := hr 2 _ rfl
  have x3 := hr 3 _ rfl
  simp only [Nat.zero_add] at x0 x1 x2 x3
  clear hr
  refine calls_hide fun R' hR' => ?_
  go_enter Tryd.func40, Tryd.ntmps40
  by_cases h1 : n = 1
  · subst h1
    go_wp2_with fail
    refine bodyPost_ret (results_cell_row rfl _ _ w.heap.size 26 _ _ _ rfl (heap_alloc_new w _) Tryd.underlying26 rfl (by kernel_rfl)) rfl ?_
    refine hR'.out _ _ ⟨?_, ?_⟩
    · simp
    · exact (Keeps.refl _ _).alloc (fun b hb => hb) _
  · have h1b : ((n : Int) == 1) = false := by simp; omega
    go_wp2_with fail
    refine bodyPost_ret (results_cell_row rfl _ _ w.heap.size 26 _ _ _ rfl (heap_alloc_new w _) Tryd.underlying26 rfl (by kernel_rfl)) rfl ?_
    refine hR'.out _ _ ⟨?_, ?_⟩
    · simp [h1]
    · exact (Keeps.refl _ _).alloc (fun b hb => hb) _
end Go.Proofs.YtbepgbkbpkaodaaDoor
