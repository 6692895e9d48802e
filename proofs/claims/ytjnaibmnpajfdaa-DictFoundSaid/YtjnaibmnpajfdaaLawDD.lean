/- Layer 10's statements: plan; Hash of the reference. -/
import Derived.Test.YtjnaibmnpajfdaaLayB
import Derived.Test.YtjnaibmnpajfdaaLawDC
namespace Go.Proofs.Ytjnaibmnpajfdaa
open Go.RowKit

def planD (b : Int) : PlanM := ⟨⟨3, 3, 3, 3, 3, 3 + b⟩, ⟨0, 0, 0, 0, b, 16⟩, 19 + b, 128, 133⟩

theorem bits_xor64 (x y : Int) (hx : 0 ≤ x ∧ x ≤ 4294967295) (hy : 0 ≤ y ∧ y ≤ 255) :
    bits .xor .u64 x y = ((Nat.xor x.toNat y.toNat : Nat) : Int) ∧ Nat.xor x.toNat y.toNat < 4294967296 := by
  obtain ⟨x, rfl⟩ := Int.eq_ofNat_of_zero_le hx.1
  obtain ⟨y, rfl⟩ := Int.eq_ofNat_of_zero_le hy.1
  have hle : Nat.xor x y < 2 ^ 32 := Nat.xor_lt_two_pow (by omega) (by omega)
  have e : (BitVec.ofInt 64 (x : Int) ^^^ BitVec.ofInt 64 (y : Int)).toNat = Nat.xor x y := by
    rw [BitVec.toNat_xor, BitVec.toNat_ofInt, BitVec.toNat_ofInt]
    have e1 : ((x : Int) % ((2 ^ 64 : Nat) : Int)).toNat = x := by omega
    have e2 : ((y : Int) % ((2 ^ 64 : Nat) : Int)).toNat = y := by omega
    rw [e1, e2]; rfl
  refine ⟨?_, hle⟩
  show IntKind.u64.wrap ((BitVec.ofInt 64 (x : Int) ^^^ BitVec.ofInt 64 (y : Int)).toNat : Int) = _
  rw [e]
  show ((Nat.xor x y : Nat) : Int) % 18446744073709551616 = _
  simp only [Int.toNat_natCast]
  omega

set_option maxHeartbeats 1000000 in
theorem hash7 (t : ByteArray) (ht : t.size ≤ 140737488351232) (w : World) :
    Calls Try.prog 69 #[.string t] w fun e w' => e = .returned (.int .u32 (hashL (bsL t))) ∧ w = w' := by
  refine calls_hide fun R' hR' => ?_
  go_enter Try.func69, Try.ntmps69
  go_wp2_with fail
  go_loop [3, 4] (fun h i => ∃ k : Nat, i = .int .i64 k ∧ k ≤ t.size ∧ h = .int .u64 (hashL ((bsL t).take k))) (fun _ i => t.size - (intOf i).toNat)
  case atStart => exact ⟨0, rfl, Nat.zero_le _, rfl⟩
  case round =>
    obtain ⟨k, rfl, hk, rfl⟩ := hrel
    have hr := hash_range ((bsL t).take k)
    by_cases hlt : k < t.size
    · have hby : 0 ≤ (t[k].toNat : Int) ∧ (t[k].toNat : Int) ≤ 255 := by have := t[k].toNat_lt; omega
      have hx := (bits_xor64 (hashL ((bsL t).take k)) (t[k].toNat : Int) hr hby)
      obtain ⟨hx, hxl⟩ := hx
      have hst : hashL ((bsL t).take (k + 1)) = hashStep (hashL ((bsL t).take k)) (t[k].toNat : Int) := by
        rw [hash_take _ _ (by rw [bsL_len]; exact hlt), bsL_get t k hlt]
      unfold hashStep at hst
      generalize hashL ((bsL t).take k) = h at *
      obtain ⟨h0, h1⟩ := hr
      obtain ⟨g0, g1⟩ := hby
      have i3 : (k : Int) < (t.size : Int) := by omega
      generalize Nat.xor h.toNat (Int.toNat ↑t[k].toNat) = xo at *
      have hxo : (xo : Int) ≤ 4294967295 := by omega
      have Hst := hid hst
      clear hst
      go_wp2_with fail
      go_round
      case rel => exact ⟨k + 1, by go_num, by omega, by rw [Hst.out]⟩
      case measure => simp [intOf]; omega
    · have hkn : k = t.size := by omega
      subst hkn
      rw [List.take_of_length_le (by rw [bsL_len]; omega)] at hr
      rw [List.take_of_length_le (by rw [bsL_len]; omega)]
      generalize hashL (bsL t) = h at *
      obtain ⟨h0, h1⟩ := hr
      go_wp2_with fail
      exact hR'.out _ _ ⟨rfl, rfl⟩
end Go.Proofs.Ytjnaibmnpajfdaa
