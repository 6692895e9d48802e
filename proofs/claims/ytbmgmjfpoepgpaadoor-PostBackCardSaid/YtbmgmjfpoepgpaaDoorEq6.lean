/- An array of six numbers is compared with itself. -/
import Derived.Test.YtbmgmjfpoepgpaaDoorPool
import Derived.ChangeKeysEq
import Derived.Laws.StructEq
namespace Go.Proofs.YtbmgmjfpoepgpaaDoor
open Go.RowKit

theorem eq6 (x : V6) (w : World) : (Op.equalIn 10000 27 x.val x.val).run Tryd.prog w = .ok true w := by
  obtain ⟨x0, x1, x2, x3, x4, x5⟩ := x
  have hint : ∀ a : Int, (Op.equalIn 9999 3 (.int .i64 a) (.int .i64 a)).run Tryd.prog w = .ok true w := fun a => by
    rw [run_equalIn_int w 9998 3 .i64 .i64 a a Tryd.underlying3]; simp
  have hsome : (Tryd.prog.info? 3).isSome = true := by kernel_rfl
  obtain ⟨i, hi⟩ := Option.isSome_iff_exists.1 hsome
  have hp : ∀ (a b c d e f : Value) (w : World), (part 3 #[a, b, c, d, e, f] 0).run Tryd.prog w = .ok a w ∧ (part 3 #[a, b, c, d, e, f] 1).run Tryd.prog w = .ok b w ∧ (part 3 #[a, b, c, d, e, f] 2).run Tryd.prog w = .ok c w ∧
      (part 3 #[a, b, c, d, e, f] 3).run Tryd.prog w = .ok d w ∧ (part 3 #[a, b, c, d, e, f] 4).run Tryd.prog w = .ok e w ∧ (part 3 #[a, b, c, d, e, f] 5).run Tryd.prog w = .ok f w := fun a b c d e f w => ⟨by kernel_rfl, by kernel_rfl, by kernel_rfl, by kernel_rfl, by kernel_rfl, by kernel_rfl⟩
  unfold V6.val
  rw [show (10000 : Nat) = 9999 + 1 from rfl, run_equalIn_array w 9999 _ _ Tryd.underlying27 hi]
  rw [show Tryd.prog.cellsOf 3 = 1 by kernel_rfl, show List.range 6 = [0, 1, 2, 3, 4, 5] from rfl]
  obtain ⟨p0, p1, p2, p3, p4, p5⟩ := hp (.int .i64 x0) (.int .i64 x1) (.int .i64 x2) (.int .i64 x3) (.int .i64 x4) (.int .i64 x5) w
  simp only [Op.eqItems, Sem.run_bind, Nat.zero_mul, Nat.mul_one, p0, p1, p2, p3, p4, p5, hint, Result.andThen_ok, Bool.not_true, Bool.false_eq_true, if_false, Sem.run_pure]
end Go.Proofs.YtbmgmjfpoepgpaaDoor
