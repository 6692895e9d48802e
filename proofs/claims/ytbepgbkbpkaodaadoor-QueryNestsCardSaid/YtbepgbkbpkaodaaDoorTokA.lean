/- Layer 6 (token): contract of Stop. -/
import Derived.Test.YtbepgbkbpkaodaaDoorUtfC
namespace Go.Proofs.YtbepgbkbpkaodaaDoor
open Go.RowKit

def stopsP : List (List UInt8) := [[97], [97, 110], [97, 110, 100], [97, 114, 101], [97, 115], [97, 116], [98, 101], [98, 121], [102, 111, 114], [105, 110], [105, 115], [105, 116], [111, 102], [111, 110], [111, 114], [116, 104, 101], [116, 111]]
def stopP (s : ByteArray) : Bool := stopsP.any fun t => s.toList == t

set_option maxRecDepth 100000 in
set_option maxHeartbeats 2000000 in
theorem token_stop (s : ByteArray) (w : World) : Calls Tryd.prog 66 #[.string s] w fun e w' => e = .returned (.bool (stopP s)) ∧ w = w' := by
  have hq : stopP s = stopsP.any fun t => s.toList == t := rfl
  unfold stopsP at hq
  simp only [List.any_cons, List.any_nil] at hq
  have HQ := hid hq
  clear hq
  refine calls_hide fun R' hR' => ?_
  go_enter Tryd.func66, Tryd.ntmps66
  go_wp2_with fail
  all_goals refine hR'.out _ _ ⟨?_, rfl⟩
  all_goals (have hq := HQ.out; clear HQ hR'; first | (exfalso; clear hq; simp_all; done) | (rw [hq]; show Ending.returned (.bool _) = Ending.returned (.bool _); congr 2; simp only [*, Bool.true_or, Bool.or_true, Bool.or_false]))
end Go.Proofs.YtbepgbkbpkaodaaDoor
