/- Contracts of package pack: Cells, Hash, Key. -/
import Derived.Test.YtbmgmjfpoepgpaaStepF
import Derived.Test.YtbmgmjfpoepgpaaPackP
import Derived.StillTailTactics
import Derived.IntWalk
import Derived.Laws.IdiomStrings
namespace Go.Proofs.Ytbmgmjfpoepgpaa
open Go.RowKit

theorem pw_cases (r : Nat) (h : r < 4) : pw r = 2 ^ (8 * r) := by
  rcases (by omega : r = 0 ∨ r = 1 ∨ r = 2 ∨ r = 3) with rfl | rfl | rfl | rfl <;> rfl
theorem or_add (x y : Int) (r : Nat) (hr : r < 4) (hx0 : 0 ≤ x) (hx : x < pw r) (hy0 : 0 ≤ y) (hy : y ≤ 255) : ((BitVec.ofInt 32 x ||| BitVec.ofInt 32 (y * pw r)).toNat : Int) = x + y * pw r := by
  obtain ⟨x, rfl⟩ := Int.eq_ofNat_of_zero_le hx0
  obtain ⟨y, rfl⟩ := Int.eq_ofNat_of_zero_le hy0
  have hp : pw r = ((2 ^ (8 * r) : Nat) : Int) := by rw [pw_cases r hr]; simp
  have h24 : 2 ^ (8 * r) ≤ 2 ^ 24 := Nat.pow_le_pow_right (by decide) (by omega)
  rw [hp] at hx ⊢
  have hyr : y * 2 ^ (8 * r) ≤ 255 * 2 ^ 24 := Nat.mul_le_mul (by omega) h24
  have hx' : x < 2 ^ (8 * r) := by omega
  rw [BitVec.toNat_or]
  have e1 : (BitVec.ofInt 32 (x : Int)).toNat = x := by
    rw [BitVec.toNat_ofInt]; omega
  have e2 : (BitVec.ofInt 32 ((y : Int) * ((2 ^ (8 * r) : Nat) : Int))).toNat = y * 2 ^ (8 * r) := by
    rw [BitVec.toNat_ofInt, ← Int.natCast_mul]
    generalize y * 2 ^ (8 * r) = z at *
    omega
  rw [e1, e2, Nat.or_comm, ← Nat.shiftLeft_eq, ← Nat.shiftLeft_add_eq_or_of_lt hx' y, Nat.shiftLeft_eq, Nat.add_comm]
  omega
theorem bits_or (x y : Int) (r : Nat) (hr : r < 4) (hx0 : 0 ≤ x) (hx : x < pw r) (hy0 : 0 ≤ y) (hy : y ≤ 255) :
    bits .or .u32 x (y * pw r) = x + y * pw r := by
  have h := or_add x y r hr hx0 hx hy0 hy
  have hle : 0 ≤ x + y * pw r ∧ x + y * pw r ≤ 4294967295 := by
    rcases (by omega : r = 0 ∨ r = 1 ∨ r = 2 ∨ r = 3) with rfl | rfl | rfl | rfl <;> (unfold pw at hx ⊢; simp at hx ⊢; omega)
  show IntKind.u32.wrap ((BitVec.ofInt 32 x ||| BitVec.ofInt 32 (y * pw r)).toNat : Int) = _
  rw [h, IntWalk.u32_in _ hle]
theorem run_shl (P : Program) (x : Int) (k : Nat) (hx : 0 ≤ x ∧ x ≤ 255) (w : World) :
    (Op.shift .shl .u32 (IntKind.u32.wrap x) .i64 (IntKind.i64.wrap (8 * (k : Int).tmod 4))).run P w = .ok (.int .u32 (x * pw (k % 4))) w := by
  have hm : (k : Int).tmod 4 = ((k % 4 : Nat) : Int) := by rw [Int.tmod_eq_emod_of_nonneg (by omega)]; omega
  have hr : k % 4 < 4 := by omega
  rw [hm, IntWalk.u32_in x (by omega), IntWalk.i64_in _ (by omega)]
  generalize k % 4 = r at *
  have hle : 0 ≤ x * pw r ∧ x * pw r ≤ 4294967295 := by
    rcases (by omega : r = 0 ∨ r = 1 ∨ r = 2 ∨ r = 3) with rfl | rfl | rfl | rfl <;> (unfold pw; simp; omega)
  unfold Op.shift
  rw [if_neg (by omega)]
  have hmin : min (8 * (r : Int)).toNat IntKind.u32.bits = 8 * r := by
    have : IntKind.u32.bits = 32 := rfl
    omega
  rw [hmin]
  show Sem.run P (pure (Value.int .u32 (IntKind.u32.wrap (x * 2 ^ (8 * r))))) w = _
  rw [← pw_cases r hr, IntWalk.u32_in _ hle]; rfl


theorem bits_xor (x y : Int) (hx : 0 ≤ x ∧ x ≤ 4294967295) (hy : 0 ≤ y ∧ y ≤ 255) :
    bits .xor .u32 x y = ((Nat.xor x.toNat y.toNat : Nat) : Int) := by
  obtain ⟨x, rfl⟩ := Int.eq_ofNat_of_zero_le hx.1
  obtain ⟨y, rfl⟩ := Int.eq_ofNat_of_zero_le hy.1
  have e : (BitVec.ofInt 32 (x : Int) ^^^ BitVec.ofInt 32 (y : Int)).toNat = Nat.xor x y := by
    rw [BitVec.toNat_xor, BitVec.toNat_ofInt, BitVec.toNat_ofInt]
    have e1 : ((x : Int) % ((2 ^ 32 : Nat) : Int)).toNat = x := by omega
    have e2 : ((y : Int) % ((2 ^ 32 : Nat) : Int)).toNat = y := by omega
    rw [e1, e2]; rfl
  have hle : Nat.xor x y < 2 ^ 32 := Nat.xor_lt_two_pow (by omega) (by omega)
  show IntKind.u32.wrap ((BitVec.ofInt 32 (x : Int) ^^^ BitVec.ofInt 32 (y : Int)).toNat : Int) = _
  rw [e, IntWalk.u32_in _ (by omega)]; rfl


end Go.Proofs.Ytbmgmjfpoepgpaa
