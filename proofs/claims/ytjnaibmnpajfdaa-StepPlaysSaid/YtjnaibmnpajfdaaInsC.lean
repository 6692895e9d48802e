/- Layer 3's statements: cut, program. -/
import Derived.Test.YtjnaibmnpajfdaaInsB
namespace Go.Proofs.Ytjnaibmnpajfdaa
open Go.RowKit

set_option maxHeartbeats 400000 in
theorem cut_any (A : Option Addr) (n cap : Nat) (h1 : n ≤ cap) (_h2 : cap ≤ maxLen) (w : World) :
    Calls Try.prog 21 #[.slice A n cap] w fun e w' => e = .returned (.slice A (min n 60) cap) ∧ w = w' := by
  refine calls_hide fun R' hR' => ?_
  go_enter Try.func21, Try.ntmps21
  go_wp2
  · exact hR'.out _ _ ⟨by rw [show min n 60 = 60 by omega], rfl⟩
  · exact hR'.out _ _ ⟨by rw [show min n 60 = n by omega], rfl⟩

set_option maxHeartbeats 400000 in
theorem program_any (v : Value) (A : Option Addr) (n cap : Nat) (hv : v = .slice A n cap) (w : World) :
    Calls Try.prog 20 #[v] w fun e w' => e = .returned (.func (.func 53) #[] #[.pointer (some ⟨w.heap.size, 0, none⟩)]) ∧
      w.alloc (.cells #[v] 22) = w' := by
  subst hv
  refine calls_hide fun R' hR' => ?_
  go_enter Try.func20, Try.ntmps20
  go_wp2
  exact hR'.out _ _ ⟨rfl, rfl⟩
end Go.Proofs.Ytjnaibmnpajfdaa
