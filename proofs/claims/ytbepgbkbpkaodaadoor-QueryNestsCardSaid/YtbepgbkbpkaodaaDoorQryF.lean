/- Layer 17 (query): deeper; several. -/
import Derived.Test.YtbepgbkbpkaodaaDoorQryE
namespace Go.Proofs.YtbepgbkbpkaodaaDoor
open Go.RowKit

/-- an error that is thrown -/
def thrown (n : Int) : Ending := .panicked [{ v := .iface 29 (.int .i64 n), recovered := false }]
theorem post_thrown {P : Program} {fn : Func} {R : Ending → World → Prop} {t : Array Value} {ch : List PanicEntry} {w : World} (h : R (.panicked ch) w) : bodyPost P fn R (Exit.panic ch) { tmps := t, defers := [] } w := by
  simp only [bodyPost]
  exact ⟨trivial, h⟩
theorem query_deeper (d : Nat) (hd : d ≤ 8) (w : World) : Calls Tryd.prog 60 #[.int .i64 d] w fun e w' => e = (if d = 8 then thrown 9 else .returned (.int .i64 ((d + 1 : Nat) : Int))) ∧ w = w' := by
  refine calls_hide fun R' hR' => ?_
  go_enter Tryd.func60, Tryd.ntmps60
  by_cases h8 : d = 8
  · subst h8
    go_wp2_with fail
    exact post_thrown (hR'.out _ _ ⟨by first | rfl | (simp; rfl), rfl⟩)
  · have hdI : ¬ 8 ≤ (d : Int) := by omega
    go_wp2_with fail
    exact hR'.out _ _ ⟨by rw [if_neg h8]; rfl, rfl⟩
end Go.Proofs.YtbepgbkbpkaodaaDoor
