/- Contracts of package pack: Cells, Hash, Key. -/
import Derived.Test.YtjnaibmnpajfdaaStepF
import Derived.Test.YtjnaibmnpajfdaaPackP
import Derived.StillTailTactics
import Derived.IntWalk
import Derived.Laws.IdiomStrings
namespace Go.Proofs.Ytjnaibmnpajfdaa
open Go.RowKit

theorem pw_cases (r : Nat) (h : r < 4) : pw r = 2 ^ (8 * r) := by
  rcases (by omega : r = 0 ∨ r = 1 ∨ r = 2 ∨ r = 3) with rfl | rfl | rfl | rfl <;> rfl
theorem or_add (x y : Int) (r : Nat) (hr : r < 4) (hx0 : 0 ≤ x) (hx : x < pw r) (hy0 : 0 ≤ y) (hy : y ≤ 255) : ((BitVec.ofInt 32 x ||| BitVec.ofInt 32 (y * pw r)).toNat : Int) = x + y * pw r := by
  obtain ⟨x, rfl⟩ := Int.eq_ofNat_of_zero_le hx0
  obtain ⟨y, rfl⟩ := Int.eq_ofNat_of_zero_le hy0
  have hp : pw r = ((2 ^ (8 * r) : Nat) : Int) := by rw [pw_cases r hr]; simp
  have h24 : 2 ^ (8 * r) ≤ 2 ^ 24 := Nat.pow_le_pow_right (by decide) (by omega)
  rw [hp] at hx ⊢
  have hyr : y * 2 ^ (8 * r) ≤ 255 * 2 ^ 24 := Nat.mul_le_mul (by omega) h24
  have hx' : x < 2 ^ (8 * r) := by omega
  rw [BitVec.toNat_or]
  have e1 : (BitVec.ofInt 32 (x : Int)).toNat = x := by
    rw [BitVec.toNat_ofInt]; omega
  have e2 : (BitVec.ofInt 32 ((y : Int) * ((2 ^ (8 * r) : Nat) : Int))).toNat = y * 2 ^ (8 * r) := by
    rw [BitVec.toNat_ofInt, ← Int.natCast_mul]
    generalize y * 2 ^ (8 * r) = z at *
    omega
  rw [e1, e2, Nat.or_comm, ← Nat.shiftLeft_eq, ← Nat.shiftLeft_add_eq_or_of_lt hx' y, Nat.shiftLeft_eq, Nat.add_comm]
  omega
theorem bits_or (x y : Int) (r : Nat) (hr : r < 4) (hx0 : 0 ≤ x) (hx : x < pw r) (hy0 : 0 ≤ y) (hy : y ≤ 255) :
    bits .or .u32 x (y * pw r) = x + y * pw r := by
  have h := or_add x y r hr hx0 hx hy0 hy
  have hle : 0 ≤ x + y * pw r ∧ x + y * pw r ≤ 4294967295 := by
    rcases (by omega : r = 0 ∨ r = 1 ∨ r = 2 ∨ r = 3) with rfl | rfl | rfl | rfl <;> (unfold pw at hx ⊢; simp at hx ⊢; omega)
  show IntKind.u32.wrap ((BitVec.ofInt 32 x ||| BitVec.ofInt 32 (y * pw r)).toNat : Int) = _
  rw [h, IntWalk.u32_in _ hle]
theorem run_shl (P : Program) (x : Int) (k : Nat) (hx : 0 ≤ x ∧ x ≤ 255) (w : World) :
    (Op.shift .shl .u32 (IntKind.u32.wrap x) .i64 (IntKind.i64.wrap (8 * (k : Int).tmod 4))).run P w = .ok (.int .u32 (x * pw (k % 4))) w := by
  have hm : (k : Int).tmod 4 = ((k % 4 : Nat) : Int) := by rw [Int.tmod_eq_emod_of_nonneg (by omega)]; omega
  have hr : k % 4 < 4 := by omega
  rw [hm, IntWalk.u32_in x (by omega), IntWalk.i64_in _ (by omega)]
  generalize k % 4 = r at *
  have hle : 0 ≤ x * pw r ∧ x * pw r ≤ 4294967295 := by
    rcases (by omega : r = 0 ∨ r = 1 ∨ r = 2 ∨ r = 3) with rfl | rfl | rfl | rfl <;> (unfold pw; simp; omega)
  unfold Op.shift
  rw [if_neg (by omega)]
  have hmin : min (8 * (r : Int)).toNat IntKind.u32.bits = 8 * r := by
    have : IntKind.u32.bits = 32 := rfl
    omega
  rw [hmin]
  show Sem.run P (pure (Value.int .u32 (IntKind.u32.wrap (x * 2 ^ (8 * r))))) w = _
  rw [← pw_cases r hr, IntWalk.u32_in _ hle]; rfl

set_option maxRecDepth 100000 in
set_option maxHeartbeats 1000000 in
theorem pack_cells (t : ByteArray) (ht : t.size ≤ 140737488351232) (w : World) :
    Calls Try.prog 73 #[.string t] w fun e w' => e = .returned (.slice (some ⟨w.heap.size, 0, none⟩) ((t.size + 3) / 4 : Nat) ((t.size + 3) / 4 : Nat)) ∧
      Blk w' w.heap.size ((packC (bsL t)).map (Value.int .u32)) ∧ Keeps (· < w.heap.size) w w' := by
  have hmk := fun w => run_make_row' (P := Try.prog) 45 36 (.int .u32 0) 4 Try.underlying45 Try.infoU rfl .i64 .i64 ((t.size + 3) / 4) (by omega) (by omega) w
  rw [show (((t.size + 3) / 4 : Nat) : Int) = ((t.size : Int) + 3) / 4 by omega] at hmk
  refine calls_hide fun R' hR' => ?_
  go_enter Try.func73, Try.ntmps73
  go_wp2_with fail
  have hb0 := made_blk w (.int .u32 0) ((t.size + 3) / 4) 36
  have hk0 : Keeps (· < w.heap.size) w (w.alloc (.cells (madeCells #[.int .u32 0] ((t.size + 3) / 4)) 36)) := (Keeps.refl _ _).alloc (fun b hb => hb) _
  generalize hw0 : w.alloc (.cells (madeCells #[.int .u32 0] ((t.size + 3) / 4)) 36) = w0 at *
  generalize hb : w.heap.size = b at *
  have Hb0 := hid hb0
  have Hk0 := hid hk0
  have Hw0 := hid hw0
  have Hb := hid hb
  clear hb0 hk0 hw0 hb
  clear hmk
  go_loopw [12] (fun i wr => ∃ k : Nat, i = .int .i64 k ∧ k ≤ t.size ∧ Blk wr b ((pcs (bsL t) ((t.size + 3) / 4) k).map (Value.int .u32)) ∧ Keeps (· < b) w wr) (fun i _ => t.size - (intOf i).toNat)
  case atStart => exact ⟨0, rfl, Nat.zero_le _, by rw [pcs_zero, List.map_replicate]; exact Hb0.out, Hk0.out⟩
  case round =>
    obtain ⟨k, rfl, hk, hB, hK⟩ := hrel
    by_cases hlt : k < t.size
    · have hq : k / 4 < (t.size + 3) / 4 := by omega
      have cx : wr.cell? ⟨b, k / 4, none⟩ = some (.int .u32 (pc (bsL t) k (k / 4))) := by
        rw [hB.cell, List.getElem?_map, pcs_get _ _ _ _ hq]; rfl
      have fx := hB.free (k / 4)
      have i1 : (k : Int) / 4 < ((t.size : Int) + 3) / 4 := by omega
      have i2 : 0 ≤ (k : Int) / 4 := by omega
      have i3 : (k : Int) < (t.size : Int) := by omega
      have HB := hid hB
      have HK := hid hK
      clear hB hK
      go_wp2_with fail
      have hw1 : IntKind.i64.wrap ((k : Int) / 4) = (k : Int) / 4 := IntWalk.i64_in _ (by omega)
      have hw2 : ((k : Int) / 4).toNat = k / 4 := by omega
      have hby : Byte (t[k].toNat : Int) := by have := t[k].toNat_lt; unfold Byte; omega
      have hlo := pc_low (fun x hx => bsL_range t x hx) k
      have hsh := fun W => run_shl Try.prog (t[k].toNat : Int) k hby W
      have hor := bits_or (pc (bsL t) k (k / 4)) (t[k].toNat : Int) (k % 4) (by omega) hlo.1 hlo.2 hby.1 hby.2
      have hnx := pcs_next (bsL t) ((t.size + 3) / 4) k
      rw [bsL_get t k hlt] at hnx
      have Hnx := hid hnx
      have Hby := hid hby
      have Hlo := hid hlo
      have Hor := hid hor
      clear hnx hby hlo hor
      go_still_tail 15, (by kernel_rfl)
      change wpList _ _ _ _ _ wr.drew
      clear hsh hw1
      go_wp2_with fail
      go_roundw
      case rel =>
        refine ⟨k + 1, by go_num, by omega, ?_, (HK.out.drew).setCell (by simp) _⟩
        rw [← Hnx.out, List.map_set, Hor.out]
        exact (HB.out.drew).set (k / 4) _
      case measure => simp [intOf]; omega
    · have hkn : k = t.size := by omega
      subst hkn
      have HB := hid hB
      have HK := hid hK
      clear hB hK
      go_wp2_with fail
      refine hR'.out _ _ ⟨rfl, ?_, HK.out⟩
      have := HB.out
      unfold packC
      rw [bsL_len]; exact this

theorem bits_xor (x y : Int) (hx : 0 ≤ x ∧ x ≤ 4294967295) (hy : 0 ≤ y ∧ y ≤ 255) :
    bits .xor .u32 x y = ((Nat.xor x.toNat y.toNat : Nat) : Int) := by
  obtain ⟨x, rfl⟩ := Int.eq_ofNat_of_zero_le hx.1
  obtain ⟨y, rfl⟩ := Int.eq_ofNat_of_zero_le hy.1
  have e : (BitVec.ofInt 32 (x : Int) ^^^ BitVec.ofInt 32 (y : Int)).toNat = Nat.xor x y := by
    rw [BitVec.toNat_xor, BitVec.toNat_ofInt, BitVec.toNat_ofInt]
    have e1 : ((x : Int) % ((2 ^ 32 : Nat) : Int)).toNat = x := by omega
    have e2 : ((y : Int) % ((2 ^ 32 : Nat) : Int)).toNat = y := by omega
    rw [e1, e2]; rfl
  have hle : Nat.xor x y < 2 ^ 32 := Nat.xor_lt_two_pow (by omega) (by omega)
  show IntKind.u32.wrap ((BitVec.ofInt 32 (x : Int) ^^^ BitVec.ofInt 32 (y : Int)).toNat : Int) = _
  rw [e, IntWalk.u32_in _ (by omega)]; rfl

set_option maxHeartbeats 1000000 in
theorem pack_hash (t : ByteArray) (ht : t.size ≤ 140737488351232) (w : World) :
    Calls Try.prog 74 #[.string t] w fun e w' => e = .returned (.int .u32 (hashL (bsL t))) ∧ w = w' := by
  refine calls_hide fun R' hR' => ?_
  go_enter Try.func74, Try.ntmps74
  go_wp2_with fail
  go_loop [3, 7] (fun h i => ∃ k : Nat, i = .int .i64 k ∧ k ≤ t.size ∧ h = .int .u32 (hashL ((bsL t).take k))) (fun _ i => t.size - (intOf i).toNat)
  case atStart => exact ⟨0, rfl, Nat.zero_le _, rfl⟩
  case round => 
    obtain ⟨k, rfl, hk, rfl⟩ := hrel
    have hr := hash_range ((bsL t).take k)
    by_cases hlt : k < t.size
    · have hby : 0 ≤ (t[k].toNat : Int) ∧ (t[k].toNat : Int) ≤ 255 := by have := t[k].toNat_lt; omega
      have hx := bits_xor (hashL ((bsL t).take k)) (t[k].toNat : Int) hr hby
      have hst : hashL ((bsL t).take (k + 1)) = hashStep (hashL ((bsL t).take k)) (t[k].toNat : Int) := by
        rw [hash_take _ _ (by rw [bsL_len]; exact hlt), bsL_get t k hlt]
      generalize hashL ((bsL t).take k) = h at *
      obtain ⟨h0, h1⟩ := hr
      obtain ⟨g0, g1⟩ := hby
      have i3 : (k : Int) < (t.size : Int) := by omega
      have Hst := hid hst
      have Hx := hid hx
      clear hst hx
      go_wp2_with fail
      go_round
      case rel => 
        refine ⟨k + 1, by go_num, by omega, ?_⟩
        rw [Hst.out, Hx.out]; rfl
      case measure => simp [intOf]; omega
    · have hkn : k = t.size := by omega
      subst hkn
      go_wp2_with fail
      refine hR'.out _ _ ⟨?_, rfl⟩
      rw [List.take_of_length_le (by rw [bsL_len]; omega)]

set_option maxRecDepth 100000 in
set_option maxHeartbeats 1000000 in
theorem pack_key (f : Int) (t : ByteArray) (hf : 0 ≤ f ∧ f ≤ 255) (ht : t.size ≤ 140737488351232) (w : World) :
    Calls Try.prog 68 #[.int .u8 f, .string t] w fun e w' => ∃ s, e = .returned (.string s) ∧ bsL s = f :: bsL t ∧ Keeps (· < w.heap.size) w w' := by
  have hcv := run_convert_bytes_back (P := Try.prog) (w.alloc (.cells #[.int .u8 f] 5)) 44 9 5 ⟨w.heap.size, 0, none⟩ 1 [UInt8.ofNat f.toNat] Try.underlying44 Try.underlying5 Try.underlying9 (by
    intro j hj
    have : j = 0 := by simpa using hj
    subst this
    have e := (Blk.new w [.int .u8 f] 5).cell 0
    simp only [List.getElem?_cons_zero] at e
    have : ((UInt8.ofNat f.toNat).toNat : Int) = f := by
      rw [UInt8.toNat_ofNat']; omega
    show _ = some (Value.int .u8 ((UInt8.ofNat f.toNat).toNat : Int))
    rw [this]; exact e)
  simp only [List.length_singleton] at hcv
  refine calls_hide fun R' hR' => ?_
  go_enter Try.func68, Try.ntmps68
  go_wp2_with fail
  refine hR'.out _ _ ⟨_, rfl, ?_, (Keeps.refl _ _).alloc (fun b hb => hb) _⟩
  have e1 : ((UInt8.ofNat f.toNat).toNat : Int) = f := by rw [UInt8.toNat_ofNat']; omega
  simp only [bsL, ByteArray.data_append, Array.toList_append, List.map_append, List.map_cons, List.map_nil, e1]
  rfl
end Go.Proofs.Ytjnaibmnpajfdaa
