/- Contracts of the references: a number's bytes, a text's cells. -/
import Derived.Test.YtbmgmjfpoepgpaaFindC
import Derived.Outline
namespace Go.Proofs.Ytbmgmjfpoepgpaa
open Go.RowKit

def vlq (n : Nat) : List Int := if h : n > 127 then ((n % 128 + 128 : Nat) : Int) :: vlq (n / 128) else [(n : Int)]
termination_by n
decreasing_by omega
theorem vlq_big {n : Nat} (h : n > 127) : vlq n = ((n % 128 + 128 : Nat) : Int) :: vlq (n / 128) := by rw [vlq]; exact dif_pos h
theorem vlq_small {n : Nat} (h : ¬ n > 127) : vlq n = [(n : Int)] := by rw [vlq]; exact dif_neg h
theorem Try.infoF8 : (Try.prog.info? 5).map (fun i => (i.zero, i.size, i.bytes)) = some (some (.int .u8 0), 1, 1) := by kernel_rfl

/-- an own row in a new block -/
def NewRow (w0 w : World) (E : TypeId) (f : Int → Value) (v : Value) (xs : List Int) : Prop := w.ownsRow w0.heap.size E 1 v xs.length (xs.map f) ∧ Keeps (· < w0.heap.size) w0 w

theorem NewRow.empty (w : World) (E T : TypeId) (f : Int → Value) (hT : T = E) : NewRow w (w.alloc (.cells #[] T)) E f (.slice (some ⟨w.heap.size, 0, none⟩) 0 0) [] :=
  ⟨⟨rfl, Or.inr ⟨w.heap.size, 0, #[], rfl, Nat.le_refl _, by rw [heap_alloc_new, hT], Nat.le_refl _, Nat.zero_le _, rfl, rfl⟩⟩, (Keeps.refl _ _).alloc (fun b hb => hb) _⟩
theorem ownB_form {w : World} {B E n sz : Nat} {v : Value} {xs : List Value} (h : w.ownsRow B E sz v n xs) : ∃ A cp, v = .slice A n cp := by
  rcases h.2 with ⟨h1, h2⟩ | ⟨b, cap, _, h1, _⟩
  · exact ⟨_, _, by rw [h1, h2]⟩
  · exact ⟨_, _, h1⟩
theorem ownB_lt {w : World} {B E n sz : Nat} {v : Value} {xs : List Value} (h : w.ownsRow B E sz v n xs) {b : Nat} (hb : v.ownBlock = some b) : B ≤ b ∧ b < w.heap.size := by
  rcases h.2 with ⟨h1, _⟩ | ⟨g, cap, cur, h1, h2, h3, _⟩
  · rw [h1] at hb; cases hb
  · rw [h1] at hb
    have : g = b := by simpa [Value.ownBlock] using hb
    subst this
    exact ⟨h2, (Array.getElem?_eq_some_iff.1 h3).1⟩
theorem ownB_keep {w w' : World} {B E n sz : Nat} {v : Value} {xs : List Value} {K : Nat → Prop} (h : w.ownsRow B E sz v n xs) (k : Keeps K w w') (hK : ∀ b, B ≤ b → b < w.heap.size → v.ownBlock = some b → K b) : w'.ownsRow B E sz v n xs := by
  refine ⟨h.1, ?_⟩
  rcases h.2 with h1 | ⟨g, cap, cur, h1, h2, h3, h4⟩
  · exact Or.inl h1
  · have hb : v.ownBlock = some g := by rw [h1]; rfl
    exact Or.inr ⟨g, cap, cur, h1, h2, by rw [k.block g (hK g h2 (ownB_lt h hb).2 hb)]; exact h3, h4⟩
theorem ownB_slAt {w : World} {B E n : Nat} {v : Value} {xs : List Value} (h : w.ownsRow B E 1 v n xs) : SlAt w (fun b => B ≤ b ∧ b < w.heap.size) 1 v n xs := by
  have hl := h.1
  rcases h.2 with ⟨h1, h2⟩ | ⟨b, cap, cur, h1, h0, h3, h4, h5, h6, h7⟩
  · exact ⟨none, 0, by rw [h1, h2], by omega, Nat.zero_le _, hl, fun hn => by omega⟩
  · refine ⟨some ⟨b, 0, none⟩, cap, h1, h4, h5, hl, fun hn => ⟨b, 0, rfl, ownB_lt h (by rw [h1]; rfl), fun j u hu => ?_⟩⟩
    have := h.cells (g := b) (by rw [h1]; rfl) j u hu
    have ea : (⟨b, 0, none⟩ : Addr).add j = ⟨b, j, none⟩ := by unfold Addr.add; split <;> simp_all
    rw [Nat.zero_add, ← ea]; exact this
theorem keeps_grown {w0 w w' : World} {B : Nat} {v : Value} {E n sz : Nat} {xs : List Value} (hk : Keeps (· < B) w0 w) (hB : B ≤ w.heap.size) (h : w.ownsRow B E sz v n xs) (hg : w.grownBy w' v.ownBlock) : Keeps (· < B) w0 w' :=
  hk.trans ⟨hg.os, hg.tape, hg.output, hg.size, fun b hb => hg.block b (by omega) (fun e => by have := (ownB_lt h e.symm).1; omega)⟩

theorem NewRow.push {w0 wr w' : World} {E T : TypeId} {f : Int → Value} {v v' : Value} {acc : List Int} {x : Int} (h : NewRow w0 wr E f v acc) (hown : w'.ownsRow w0.heap.size E 1 v' (acc.length + 1) (acc.map f ++ [f x])) (hg : (wr.alloc (.cells #[f x] T)).grownBy w' v.ownBlock) : NewRow w0 w' E f v' (acc ++ [x]) := by
  refine ⟨by simpa using hown, ?_⟩
  have hB := h.2.size
  exact keeps_grown (h.2.alloc (fun b hb => by omega) _) (by simp; omega) (h.1.alloc _) hg

set_option maxRecDepth 100000 in
set_option maxHeartbeats 1000000 in
theorem ref8_put (n : Nat) (hn : n ≤ 4294967295) (w : World) : Calls Try.prog 62 #[.int .u32 n] w fun e w' => ∃ v, e = .returned v ∧ NewRow w w' 5 (Value.int .u8) v (vlq n) := by
  refine calls_hide fun R' hR' => ?_
  go_enter Try.func62, Try.ntmps62
  go_wp2_with fail
  go_loopw [0, 3] (fun nv ov wr => ∃ (k : Nat) (acc : List Int) (A : Option Addr) (cp : Nat), nv = .int .u32 (k : Int) ∧ ov = .slice A acc.length cp ∧ acc.length + k ≤ n ∧ Hid (NewRow w wr 5 (Value.int .u8) (.slice A acc.length cp) acc) ∧ Hid (acc ++ vlq k = vlq n)) (fun nv _ _ => (intOf nv).toNat)
  case atStart => exact ⟨n, [], _, 0, rfl, rfl, by simp, hid (NewRow.empty _ _ _ _ rfl), hid rfl⟩
  case round =>
    obtain ⟨k, acc, A, cp, rfl, rfl, hk, HR, HE⟩ := hrel
    have hBs := HR.out.2.size
    by_cases hb : k > 127
    · have hbI : (k : Int) > 127 := by omega
      have hm0 : 0 ≤ (k : Int) % 128 := by omega
      have hm1 : (k : Int) % 128 ≤ 127 := by omega
      have hex := HE.out
      rw [vlq_big hb] at hex
      have Hex := hid hex
      clear hex
      clear HE
      obtain ⟨i0, hi, hz0, hz1, hz2⟩ := info_partsF Try.infoF8
      go_wp2_with (at_builtin; refine wpList_append_own _ rfl _ _ 106 rfl (w.heap.size) 5 i0 (.int .u8 0) 1 1 Try.underlying106 hi hz0 hz1 hz2 rfl (by decide) (.slice A acc.length cp) acc.length (acc.map (Value.int .u8)) rfl (HR.out.1.alloc _) ⟨wr.heap.size, 0, none⟩ 1 1 [.int .u8 ((k : Int) % 128 + 128)] rfl rfl ?_ ?_ ?_ ?_ ?_ ?_)
      all_goals (try (first | (intro j u hj; rcases j with _ | j; (· simpa [Addr.add] using hj); (· simp at hj)) | (intro u hu; simp at hu; rcases hu with rfl; rfl) | (with_reducible rfl) | rfl | (unfold maxLen; omega) | omega | (simp; omega) | (simp; done)))
      intro v' w6 hown hgr _
      obtain ⟨A', cp', rfl⟩ := ownB_form hown
      have hN := HR.out.push hown hgr
      clear hown hgr hi hz0 hz1 hz2 HR
      have HN := hid hN
      clear hN
      go_wp2_with fail
      go_roundw
      case rel => exact ⟨k / 128, acc ++ [(k : Int) % 128 + 128], A', cp', by first | rfl | go_num | (congr 1; omega), by simp, by simp; omega, by simpa using HN, hid (by have := Hex.out; rw [← this, List.append_assoc]; congr 1)⟩
      case measure => first | (simp [intOf]; done) | (simp [intOf]; omega)
    · have hbI : ¬ (k : Int) > 127 := by omega
      have hex := HE.out
      rw [vlq_small hb] at hex
      have Hex := hid hex
      clear hex
      clear HE
      obtain ⟨i0, hi, hz0, hz1, hz2⟩ := info_partsF Try.infoF8
      go_wp2_with (at_builtin; refine wpList_append_own _ rfl _ _ 106 rfl (w.heap.size) 5 i0 (.int .u8 0) 1 1 Try.underlying106 hi hz0 hz1 hz2 rfl (by decide) (.slice A acc.length cp) acc.length (acc.map (Value.int .u8)) rfl (HR.out.1.alloc _) ⟨wr.heap.size, 0, none⟩ 1 1 [.int .u8 (k : Int)] rfl rfl ?_ ?_ ?_ ?_ ?_ ?_)
      all_goals (try (first | (intro j u hj; rcases j with _ | j; (· simpa [Addr.add] using hj); (· simp at hj)) | (intro u hu; simp at hu; rcases hu with rfl; rfl) | (with_reducible rfl) | rfl | (unfold maxLen; omega) | omega | (simp; omega) | (simp; done)))
      intro v' w6 hown hgr _
      have hN := HR.out.push hown hgr
      rw [Hex.out] at hN
      have HN := hid hN
      clear hN
      clear hown hgr hi hz0 hz1 hz2 HR
      go_wp2_with fail
      exact hR'.out _ _ ⟨_, rfl, HN.out⟩

/-- a cell of a text, byte by byte from above -/
def pv (l : List Int) (m i : Nat) : Nat → Int
  | 0 => 0
  | j + 1 => pv l m i j * 256 + (if i + (3 - j) < m then l.getD (i + (3 - j)) 0 else 0)
theorem pv_bound {l : List Int} (h : ∀ x ∈ l, 0 ≤ x ∧ x ≤ 255) (m i : Nat) : ∀ j, j ≤ 4 → 0 ≤ pv l m i j ∧ pv l m i j < 256 ^ j
  | 0, _ => by simp [pv]
  | j + 1, hj => by
    obtain ⟨h0, h1⟩ := pv_bound h m i j (by omega)
    have hb : 0 ≤ (if i + (3 - j) < m then l.getD (i + (3 - j)) 0 else 0) ∧ (if i + (3 - j) < m then l.getD (i + (3 - j)) 0 else 0) ≤ 255 := by
      split
      · rw [List.getD_eq_getElem?_getD]
        cases hg : l[i + (3 - j)]? with
        | none => simp
        | some x => exact h x (List.mem_of_getElem? hg)
      · simp
    unfold pv
    rw [Int.pow_succ]
    omega
theorem pv_all (l : List Int) (m q : Nat) : pv l m (4 * q) 4 = pc l m q := by
  simp only [pv, pc]
  simp
  omega

set_option maxRecDepth 100000 in
set_option maxHeartbeats 2000000 in
theorem ref7_cells (t : ByteArray) (ht : t.size ≤ 1099511627776) (w : World) : Calls Try.prog 39 #[.string t] w fun e w' => ∃ v, e = .returned v ∧ NewRow w w' 55 (Value.int .u32) v (packC (bsL t)) := by
  refine calls_hide fun R' hR' => ?_
  go_enter Try.func39, Try.ntmps39
  go_wp2_with fail
  go_loopw [3, 4] (fun ov iv wr => ∃ (q : Nat) (A : Option Addr) (cp : Nat), ov = .slice A (pcs (bsL t) q t.size).length cp ∧ iv = .int .i64 (4 * (q : Int)) ∧ q ≤ (t.size + 3) / 4 ∧ Hid (NewRow w wr 55 (Value.int .u32) (.slice A (pcs (bsL t) q t.size).length cp) (pcs (bsL t) q t.size))) (fun _ iv _ => t.size + 4 - (intOf iv).toNat)
  case atStart => exact ⟨0, _, 0, rfl, rfl, Nat.zero_le _, hid (NewRow.empty _ _ _ _ rfl)⟩
  case round =>
    obtain ⟨q, A, cp, rfl, rfl, hq, HR⟩ := hrel
    by_cases hlt : 4 * q < t.size
    · have hltI : 4 * (q : Int) < (t.size : Int) := by omega
      go_wp2_with fail
      go_loopw [5, 6] (fun nv kv wk => ∃ (z : Int), nv = .int .u32 (pv (bsL t) t.size (4 * q) (3 - z).toNat) ∧ kv = .int .i64 z ∧ -1 ≤ z ∧ z ≤ 3 ∧ wr = wk) (fun _ kv _ => (intOf kv + 1).toNat)
      case atStart => exact ⟨3, rfl, rfl, by omega, by omega, rfl⟩
      case round =>
        rename World => wk
        obtain ⟨z, rfl, rfl, hz0, hz1, rfl⟩ := hrel
        by_cases hz : 0 ≤ z
        · obtain ⟨k, rfl⟩ := Int.eq_ofNat_of_zero_le hz
          obtain ⟨j, hj⟩ : ∃ j, j = (3 - (k : Int)).toNat := ⟨_, rfl⟩
          have hj3 : j ≤ 3 := by omega
          have hkj : k = 3 - j := by omega
          have hb := pv_bound (fun x hx => bsL_range t x hx) t.size (4 * q) j (by omega)
          have hb2 : pv (bsL t) t.size (4 * q) j < 16777216 := by
            rcases (by omega : j = 0 ∨ j = 1 ∨ j = 2 ∨ j = 3) with rfl | rfl | rfl | rfl <;> (simp at hb; omega)
          have hb1 := hb.1
          have hnx : pv (bsL t) t.size (4 * q) (j + 1) = pv (bsL t) t.size (4 * q) j * 256 + (if 4 * q + (3 - j) < t.size then (bsL t).getD (4 * q + (3 - j)) 0 else 0) := rfl
          rw [← hkj] at hnx
          rw [← hj]
          generalize pv (bsL t) t.size (4 * q) j = pj at *
          by_cases hin : 4 * q + k < t.size
          · have hinI : 4 * (q : Int) + (k : Int) < (t.size : Int) := by omega
            rw [if_pos hin, bsL_get t _ hin] at hnx
            have hby : t[4 * q + k].toNat ≤ 255 := by have := t[4 * q + k].toNat_lt; omega
            have hq0 : (0 : Int) ≤ 4 * (q : Int) + (k : Int) := by omega
            have Hnx := hid hnx
            have Hj := hid hj
            have Hkj := hid hkj
            clear hnx hj hkj
            clear hb
            go_wp2_with fail
            go_roundw
            case rel => exact ⟨(k : Int) - 1, by rw [show (3 - ((k : Int) - 1)).toNat = j + 1 by have := Hj.out; omega, Hnx.out], rfl, by omega, by omega, by first | trivial | rfl⟩
            case measure => first | (simp [intOf]; done) | (simp [intOf]; omega)
          · have hinI : ¬ 4 * (q : Int) + (k : Int) < (t.size : Int) := by omega
            rw [if_neg hin] at hnx
            have Hnx := hid hnx
            have Hj := hid hj
            have Hkj := hid hkj
            clear hnx hj hkj
            clear hb hin
            go_wp2_with fail
            go_roundw
            case rel => exact ⟨(k : Int) - 1, by rw [show (3 - ((k : Int) - 1)).toNat = j + 1 by have := Hj.out; omega, Hnx.out]; simp, rfl, by omega, by omega, by first | trivial | rfl⟩
            case measure => first | (simp [intOf]; done) | (simp [intOf]; omega)
        · obtain rfl : z = -1 := by omega
          have hBs := HR.out.2.size
          have hlb : (pcs (bsL t) q t.size).length ≤ 1099511627776 := by rw [pcs_len]; omega
          rw [show (3 - (-1 : Int)).toNat = 4 from rfl, pv_all]
          obtain ⟨i0, hi, hz0, hz1, hz2⟩ := info_partsF Try.infoU
          go_wp2_with (at_builtin; refine wpList_append_own _ rfl _ _ 32 rfl (w.heap.size) 55 i0 (.int .u32 0) 1 4 Try.underlying32 hi hz0 hz1 hz2 rfl (by decide) (.slice A (pcs (bsL t) q t.size).length cp) (pcs (bsL t) q t.size).length ((pcs (bsL t) q t.size).map (Value.int .u32)) rfl (HR.out.1.alloc _) ⟨wr.heap.size, 0, none⟩ 1 1 [.int .u32 (pc (bsL t) t.size q)] rfl rfl ?_ ?_ ?_ ?_ ?_ ?_)
          all_goals (try (first | (intro j u hj; rcases j with _ | j; (· simpa [Addr.add] using hj); (· simp at hj)) | (intro u hu; simp at hu; rcases hu with rfl; rfl) | (with_reducible rfl) | rfl | (unfold maxLen; omega) | omega | (simp; omega) | (simp; done)))
          intro v' w6 hown hgr _
          have hN := HR.out.push hown hgr
          have hp : pcs (bsL t) q t.size ++ [pc (bsL t) t.size q] = pcs (bsL t) (q + 1) t.size := by unfold pcs; rw [List.range_succ, List.map_append]; rfl
          have hl1 : (pcs (bsL t) q t.size).length + 1 = (pcs (bsL t) (q + 1) t.size).length := by rw [pcs_len, pcs_len]
          rw [hl1] at hown
          obtain ⟨A', cp', rfl⟩ := ownB_form hown
          rw [hp] at hN
          clear hown hgr hi hz0 hz1 hz2 HR hp hl1
          have HN := hid hN
          clear hN
          go_wp2_with fail
          go_roundw
          case rel => exact ⟨q + 1, A', cp', rfl, by go_num, by omega, HN⟩
          case measure => first | (simp [intOf]; done) | (simp [intOf]; omega)
    · obtain rfl : q = (t.size + 3) / 4 := by omega
      have hltI : ¬ 4 * (((t.size + 3) / 4 : Nat) : Int) < (t.size : Int) := by omega
      go_wp2_with fail
      refine hR'.out _ _ ⟨_, rfl, ?_⟩
      have e : packC (bsL t) = pcs (bsL t) ((t.size + 3) / 4) t.size := by unfold packC; rw [bsL_len]
      rw [e]
      exact HR.out
end Go.Proofs.Ytbmgmjfpoepgpaa
