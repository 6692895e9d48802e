/- The document's layer 4: at. -/
import Derived.Test.YtbepgbkbpkaodaaDoorJRefU
namespace Go.Proofs.YtbepgbkbpkaodaaDoor
open Go.RowKit

/-- the byte at a place -/
def byteI (s : ByteArray) (i : Nat) : Int := ((s.get! i).toNat : Int)
theorem byteI_bnd (s : ByteArray) (i : Nat) : 0 ≤ byteI s i ∧ byteI s i ≤ 255 := by unfold byteI; have := (s.get! i).toNat_lt; omega
theorem byteI_at (s : ByteArray) (i : Nat) (h : i < s.size) : byteI s i = ((s[i]).toNat : Int) := by
  obtain ⟨d⟩ := s
  unfold byteI
  have : (⟨d⟩ : ByteArray).get! i = d[i]! := rfl
  rw [this, getElem!_pos d i h]; rfl
/-- the rune at a place, as the document reads it: 0, 0 where none stands there -/
def atP (s : ByteArray) (i : Nat) : Int × Int := if byteI s i < 128 then (byteI s i, 1) else if (Utf8.decode s i).2 = 1 then (0, 0) else ((Utf8.decode s i).1, (Utf8.decode s i).2)
/-- how many bytes a lead byte calls for, and what it holds -/
def leadK (b : Int) : Int := if b < 192 then 0 else if b < 224 then 2 else if b < 240 then 3 else if b < 248 then 4 else 0
def leadN (b : Int) : Int := if b < 224 then b - 192 else if b < 240 then b - 224 else b - 240
/-- what has been read of bytes 1 .. -/
def accN (s : ByteArray) (i : Nat) : Nat → Int
  | 0 => leadN (byteI s i)
  | j + 1 => accN s i j * 64 + byteI s (i + (j + 1)) - 128
def contB (s : ByteArray) (i j : Nat) : Prop := ∀ m, 1 ≤ m → m ≤ j → 128 ≤ byteI s (i + m) ∧ byteI s (i + m) ≤ 191
theorem accN_bnd {s : ByteArray} {i : Nat} (hb : 192 ≤ byteI s i ∧ byteI s i < 248) : ∀ j, j ≤ 3 → contB s i j → 0 ≤ accN s i j ∧ accN s i j ≤ 32 * 64 ^ j - 1
  | 0, _, _ => by
    show 0 ≤ leadN _ ∧ leadN _ ≤ _
    unfold leadN
    repeat' split
    all_goals omega
  | j + 1, hj, hc => by
    obtain ⟨h1, h2⟩ := accN_bnd hb j (by omega) (fun m a b => hc m a (by omega))
    have h3 := hc (j + 1) (by omega) (Nat.le_refl _)
    have e : (64 : Int) ^ (j + 1) = 64 ^ j * 64 := Int.pow_succ _ _
    show 0 ≤ accN s i j * 64 + byteI s (i + (j + 1)) - 128 ∧ accN s i j * 64 + byteI s (i + (j + 1)) - 128 ≤ _
    generalize (64 : Int) ^ j = p at *
    omega
theorem encB_len {r : Int} (h : Utf8.valid r = true) : (encB r).length = if r < 128 then 1 else if r < 2048 then 2 else if r < 65536 then 3 else 4 := by
  have hv := valid_max h
  rw [encB_of r r.toNat (by rw [if_pos h])]
  by_cases h1 : r < 128
  · rw [if_pos (by omega), if_pos h1]; rfl
  rw [if_neg (by omega), if_neg h1]
  by_cases h2 : r < 2048
  · rw [if_pos (by omega), if_pos h2]; rfl
  rw [if_neg (by omega), if_neg h2]
  by_cases h3 : r < 65536
  · rw [if_pos (by omega), if_pos h3]; rfl
  rw [if_neg (by omega), if_neg h3]; rfl
theorem atP_one (s : ByteArray) (i : Nat) (h : byteI s i < 128) : atP s i = (byteI s i, 1) := by unfold atP; rw [if_pos h]
theorem decN (s : ByteArray) (i : Nat) : ∃ b0 b1 b2 b3 : Nat, byteI s i = b0 ∧ byteI s (i + 1) = b1 ∧ byteI s (i + 2) = b2 ∧ byteI s (i + 3) = b3 ∧ Utf8.decode s i = Lib.decodeN (s.size - i) b0 b1 b2 b3 :=
  ⟨_, _, _, _, rfl, rfl, rfl, rfl, Lib.decode_at s i⟩
/-- no rune stands there -/
theorem atP_none (s : ByteArray) (i : Nat) (hi : i < s.size) (h : 128 ≤ byteI s i) (hn : leadK (byteI s i) = 0 ∨ (s.size : Int) - i < leadK (byteI s i) ∨ ∃ m : Nat, 1 ≤ m ∧ (m : Int) < leadK (byteI s i) ∧ ¬ (128 ≤ byteI s (i + m) ∧ byteI s (i + m) ≤ 191)) : atP s i = (0, 0) := by
  obtain ⟨b0, b1, b2, b3, e0, e1, e2, e3, hd⟩ := decN s i
  have q0 := byteI_bnd s i
  have q1 := byteI_bnd s (i + 1)
  have q2 := byteI_bnd s (i + 2)
  have q3 := byteI_bnd s (i + 3)
  have hm : ∀ m : Nat, 1 ≤ m → m ≤ 3 → m = 1 ∨ m = 2 ∨ m = 3 := fun m _ _ => by omega
  unfold atP
  rw [if_neg (by omega)]
  have key : (Utf8.decode s i).2 = 1 := by
    rw [hd]
    rw [e0] at hn h q0
    unfold leadK at hn
    unfold Lib.decodeN
    have hn2 : (b0 < 192 ∨ 248 ≤ b0) ∨ (192 ≤ b0 ∧ b0 < 224 ∧ (s.size < i + 2 ∨ ¬ (128 ≤ b1 ∧ b1 ≤ 191))) ∨ (224 ≤ b0 ∧ b0 < 240 ∧ (s.size < i + 3 ∨ ¬ (128 ≤ b1 ∧ b1 ≤ 191) ∨ ¬ (128 ≤ b2 ∧ b2 ≤ 191))) ∨ (240 ≤ b0 ∧ b0 < 248 ∧ (s.size < i + 4 ∨ ¬ (128 ≤ b1 ∧ b1 ≤ 191) ∨ ¬ (128 ≤ b2 ∧ b2 ≤ 191) ∨ ¬ (128 ≤ b3 ∧ b3 ≤ 191))) := by
      rcases hn with hn | hn | ⟨m, m1, m2, m3⟩
      · repeat' split at hn
        all_goals omega
      · repeat' split at hn
        all_goals omega
      · have hm3 : m ≤ 3 := by
          repeat' split at m2
          all_goals omega
        rcases hm m m1 hm3 with rfl | rfl | rfl
        · rw [e1] at m3
          repeat' split at m2
          all_goals omega
        · rw [e2] at m3
          repeat' split at m2
          all_goals omega
        · rw [e3] at m3
          repeat' split at m2
          all_goals omega
    clear hn hm
    rw [if_neg (by omega)]
    split
    · exfalso; omega
    split
    · exfalso; omega
    split
    · exfalso; omega
    rfl
  rw [if_pos key]
theorem accN1 (s : ByteArray) (i : Nat) : accN s i 1 = leadN (byteI s i) * 64 + byteI s (i + 1) - 128 := rfl
theorem accN2 (s : ByteArray) (i : Nat) : accN s i 2 = (leadN (byteI s i) * 64 + byteI s (i + 1) - 128) * 64 + byteI s (i + 2) - 128 := rfl
theorem accN3 (s : ByteArray) (i : Nat) : accN s i 3 = ((leadN (byteI s i) * 64 + byteI s (i + 1) - 128) * 64 + byteI s (i + 2) - 128) * 64 + byteI s (i + 3) - 128 := rfl
/-- a rune may stand there -/
theorem atP_some (s : ByteArray) (i j : Nat) (hi : i < s.size) (h : 192 ≤ byteI s i ∧ byteI s i < 248) (hk : leadK (byteI s i) = (j : Int) + 1) (hs : i + j < s.size) (hc : contB s i j) :
    (Utf8.valid (accN s i j) = true ∧ (encB (accN s i j)).length = j + 1 → atP s i = (accN s i j, (j : Int) + 1)) ∧ (¬ (Utf8.valid (accN s i j) = true ∧ (encB (accN s i j)).length = j + 1) → atP s i = (0, 0)) := by
  obtain ⟨b0, b1, b2, b3, e0, e1, e2, e3, hd⟩ := decN s i
  have q0 := byteI_bnd s i
  have hlen : ∀ n : Int, 0 ≤ n → n ≤ 2097151 → (Utf8.valid n = true ∧ (encB n).length = j + 1 ↔ (n < 55296 ∨ (57344 ≤ n ∧ n ≤ 1114111)) ∧ (if n < 128 then 1 else if n < 2048 then 2 else if n < 65536 then 3 else 4) = j + 1) := by
    intro n h0 h1
    constructor
    · rintro ⟨a, b⟩
      rw [encB_len a] at b
      refine ⟨?_, b⟩
      rw [valid_eq] at a
      simp only [Bool.or_eq_true, Bool.and_eq_true, decide_eq_true_eq] at a
      omega
    · rintro ⟨a, b⟩
      have hv : Utf8.valid n = true := by
        rw [valid_eq]
        simp only [Bool.or_eq_true, Bool.and_eq_true, decide_eq_true_eq]
        omega
      exact ⟨hv, by rw [encB_len hv]; exact b⟩
  unfold atP
  rw [if_neg (by omega), hd]
  rw [e0] at h hk
  unfold leadK at hk
  have hj : (192 ≤ b0 ∧ b0 < 224 ∧ j = 1) ∨ (224 ≤ b0 ∧ b0 < 240 ∧ j = 2) ∨ (240 ≤ b0 ∧ b0 < 248 ∧ j = 3) := by
    repeat' split at hk
    all_goals omega
  clear hk
  rcases hj with ⟨g1, g2, rfl⟩ | ⟨g1, g2, rfl⟩ | ⟨g1, g2, rfl⟩
  · have c1 := hc 1 (by omega) (by omega)
    rw [e1] at c1
    have en : accN s i 1 = ((b0 % 32 * 64 + b1 % 64 : Nat) : Int) := by rw [accN1, e0, e1]; unfold leadN; rw [if_pos (by omega)]; omega
    rw [en]
    have hl := hlen ((b0 % 32 * 64 + b1 % 64 : Nat) : Int) (by omega) (by omega)
    have hx : Lib.decodeN (s.size - i) b0 b1 b2 b3 = if b0 % 32 * 64 + b1 % 64 ≥ 128 then (b0 % 32 * 64 + b1 % 64, 2) else (65533, 1) := by
      unfold Lib.decodeN
      rw [if_neg (by omega), if_pos (by omega)]
    rw [hx]
    by_cases hg : b0 % 32 * 64 + b1 % 64 ≥ 128
    · rw [if_pos hg, if_neg (by simp)]
      refine ⟨fun _ => rfl, fun hn => ?_⟩
      exfalso
      apply hn
      rw [hl, if_neg (by omega), if_pos (by omega)]
      exact ⟨by omega, rfl⟩
    · rw [if_neg hg, if_pos rfl]
      refine ⟨fun hn => ?_, fun _ => rfl⟩
      exfalso
      rw [hl, if_pos (by omega)] at hn
      have := hn.2
      omega
  · have c1 := hc 1 (by omega) (by omega)
    have c2 := hc 2 (by omega) (by omega)
    rw [e1] at c1
    rw [e2] at c2
    have en : accN s i 2 = ((b0 % 16 * 4096 + b1 % 64 * 64 + b2 % 64 : Nat) : Int) := by rw [accN2, e0, e1, e2]; unfold leadN; rw [if_neg (by omega), if_pos (by omega)]; omega
    rw [en]
    have hl := hlen ((b0 % 16 * 4096 + b1 % 64 * 64 + b2 % 64 : Nat) : Int) (by omega) (by omega)
    have hx : Lib.decodeN (s.size - i) b0 b1 b2 b3 = if b0 % 16 * 4096 + b1 % 64 * 64 + b2 % 64 ≥ 2048 ∧ (b0 % 16 * 4096 + b1 % 64 * 64 + b2 % 64 < 55296 ∨ (57344 ≤ b0 % 16 * 4096 + b1 % 64 * 64 + b2 % 64 ∧ b0 % 16 * 4096 + b1 % 64 * 64 + b2 % 64 ≤ 1114111)) then (b0 % 16 * 4096 + b1 % 64 * 64 + b2 % 64, 3) else (65533, 1) := by
      unfold Lib.decodeN
      rw [if_neg (by omega), if_neg (by omega), if_pos (by omega)]
    rw [hx]
    have hcb : b0 % 16 * 4096 + b1 % 64 * 64 + b2 % 64 ≤ 65535 := by omega
    generalize b0 % 16 * 4096 + b1 % 64 * 64 + b2 % 64 = c at *
    by_cases hg : c ≥ 2048 ∧ (c < 55296 ∨ (57344 ≤ c ∧ c ≤ 1114111))
    · rw [if_pos hg, if_neg (by simp)]
      refine ⟨fun _ => rfl, fun hn => ?_⟩
      exfalso
      apply hn
      rw [hl, if_neg (by omega), if_neg (by omega), if_pos (by omega)]
      exact ⟨by omega, rfl⟩
    · rw [if_neg hg, if_pos rfl]
      refine ⟨fun hn => ?_, fun _ => rfl⟩
      exfalso
      rw [hl] at hn
      obtain ⟨h1, h2⟩ := hn
      repeat' split at h2
      all_goals omega
  · have c1 := hc 1 (by omega) (by omega)
    have c2 := hc 2 (by omega) (by omega)
    have c3 := hc 3 (by omega) (by omega)
    rw [e1] at c1
    rw [e2] at c2
    rw [e3] at c3
    have en : accN s i 3 = ((b0 % 8 * 262144 + b1 % 64 * 4096 + b2 % 64 * 64 + b3 % 64 : Nat) : Int) := by rw [accN3, e0, e1, e2, e3]; unfold leadN; rw [if_neg (by omega), if_neg (by omega)]; omega
    rw [en]
    have hl := hlen ((b0 % 8 * 262144 + b1 % 64 * 4096 + b2 % 64 * 64 + b3 % 64 : Nat) : Int) (by omega) (by omega)
    have hx : Lib.decodeN (s.size - i) b0 b1 b2 b3 = if b0 % 8 * 262144 + b1 % 64 * 4096 + b2 % 64 * 64 + b3 % 64 ≥ 65536 ∧ (b0 % 8 * 262144 + b1 % 64 * 4096 + b2 % 64 * 64 + b3 % 64 < 55296 ∨ (57344 ≤ b0 % 8 * 262144 + b1 % 64 * 4096 + b2 % 64 * 64 + b3 % 64 ∧ b0 % 8 * 262144 + b1 % 64 * 4096 + b2 % 64 * 64 + b3 % 64 ≤ 1114111)) then (b0 % 8 * 262144 + b1 % 64 * 4096 + b2 % 64 * 64 + b3 % 64, 4) else (65533, 1) := by
      unfold Lib.decodeN
      rw [if_neg (by omega), if_neg (by omega), if_neg (by omega), if_pos (by omega)]
    rw [hx]
    generalize b0 % 8 * 262144 + b1 % 64 * 4096 + b2 % 64 * 64 + b3 % 64 = c at *
    by_cases hg : c ≥ 65536 ∧ (c < 55296 ∨ (57344 ≤ c ∧ c ≤ 1114111))
    · rw [if_pos hg, if_neg (by simp)]
      refine ⟨fun _ => rfl, fun hn => ?_⟩
      exfalso
      apply hn
      rw [hl, if_neg (by omega), if_neg (by omega), if_neg (by omega)]
      exact ⟨by omega, rfl⟩
    · rw [if_neg hg, if_pos rfl]
      refine ⟨fun hn => ?_, fun _ => rfl⟩
      exfalso
      rw [hl] at hn
      obtain ⟨h1, h2⟩ := hn
      repeat' split at h2
      all_goals omega
end Go.Proofs.YtbepgbkbpkaodaaDoor
