/- Layer 17's document: the text of a leaf. -/
import Derived.Test.YtbepgbkbpkaodaaDoorShowI
namespace Go.Proofs.YtbepgbkbpkaodaaDoor
open Go.RowKit

set_option maxRecDepth 100000 in
set_option maxHeartbeats 4000000 in
theorem ref17_leaf (k f : Int) (ts : List (Int × ByteArray × Int)) (A1 A2 : Option Addr) (c1 n2 c2 : Nat) (w : World) (K : Nat → Prop) (hb : ∀ b, K b → b < w.heap.size) (h1 : SlAt w K 3 (.slice A1 ts.length c1) ts.length (ts.flatMap tokG))
    (hf : 0 ≤ f) (hok : leafOk f ts = true) (hl : ts.length ≤ 3000) (hs : textsN ts ≤ 3000) :
    Calls Tryd.prog 48 #[.agg #[.int .i64 k, .int .u8 f, .slice A1 ts.length c1, .slice A2 n2 c2]] w fun e w' => e = .returned (.string (leafRX f ts)) ∧ Keeps (· < w.heap.size) w w' := by
  have hkw : Keeps (· < w.heap.size) w (w.alloc (.cells #[.int .i64 k, .int .u8 f, .slice A1 ts.length c1, .slice A2 n2 c2] 26)) := (Keeps.refl _ _).alloc (fun b hb => hb) _
  have hB : Blk (w.alloc (.cells #[.int .i64 k, .int .u8 f, .slice A1 ts.length c1, .slice A2 n2 c2] 26)) w.heap.size [.int .i64 k, .int .u8 f, .slice A1 ts.length c1, .slice A2 n2 c2] := Blk.new w _ _
  unfold leafOk at hok
  rw [Bool.and_eq_true, Bool.and_eq_true, decide_eq_true_eq] at hok
  obtain ⟨⟨hf3, _⟩, hto⟩ := hok
  have H1 := hid h1
  have Hb := hid hb
  have Hkw := hid hkw
  have HB := hid hB
  have Hs := hid hs
  have Hto := hid hto
  clear h1 hb hkw hB hs hto
  refine calls_hide fun R' hR' => ?_
  go_enter Tryd.func48, Tryd.ntmps48
  go_wp2_with fail
  generalize w.alloc (.cells #[.int .i64 k, .int .u8 f, .slice A1 ts.length c1, .slice A2 n2 c2] 26) = W1 at *
  have hz := HB.out
  have hzl := hz.lt
  have z0 := (hz).cell 0
  have z1 := (hz).cell 1
  have z2 := (hz).cell 2
  have z3 := (hz).cell 3
  simp only [List.getElem?_cons_zero, List.getElem?_cons_succ] at z0 z1 z2 z3
  clear hz
  go_loopw [3, 4, 9] (fun sv pv iv wx => ∃ (i : Nat) (p : Int) (s : ByteArray), sv = .string s ∧ pv = .int .i64 p ∧ iv = .int .i64 (i : Int) ∧ i ≤ ts.length ∧ 0 ≤ p ∧ p ≤ 257 ∧ s.size ≤ 1000 ∧ Hid (leafL ⟨#[]⟩ 0 ts = leafL s p (ts.drop i)) ∧ Hid (termsOk f p (ts.drop i) = true) ∧ W1 = wx) (fun _ _ iv _ => ts.length - (intOf iv).toNat)
  case atStart => exact ⟨0, 0, ⟨#[]⟩, rfl, rfl, rfl, Nat.zero_le _, by decide, by decide, Nat.zero_le _, hid rfl, Hto, by first | trivial | rfl⟩
  case round =>
    obtain ⟨i, p, s, rfl, rfl, rfl, hi, hp0, hp1, hss, HL, HT, rfl⟩ := hrel
    by_cases hlt : i < ts.length
    · have hltI : (i : Int) < (ts.length : Int) := by omega
      obtain ⟨⟨tf, tt, tp⟩, hx⟩ : ∃ x, ts[i]? = some x := ⟨_, List.getElem?_eq_getElem hlt⟩
      have hd : ts.drop i = (tf, tt, tp) :: ts.drop (i + 1) := by
        obtain ⟨h9, h8⟩ := List.getElem?_eq_some_iff.1 hx
        rw [List.drop_eq_getElem_cons h9, h8]
      obtain ⟨b0, o0, rfl, hk1, g1⟩ := SlAt.rec (f := tokG) (fun _ _ => rfl) H1.out i _ hx
      have hh0 := Hb.out _ hk1
      have a1 := (World.cell?_of_block (a := ⟨b0, o0 + i * 3 + 1, none⟩) (Hkw.out.block b0 hh0)).trans (g1 1 _ rfl)
      have a2 := (World.cell?_of_block (a := ⟨b0, o0 + i * 3 + 2, none⟩) (Hkw.out.block b0 hh0)).trans (g1 2 _ rfl)
      have htt : tt.size ≤ 3000 := by have := sumL_mem (fun t : Int × ByteArray × Int => t.2.1.size) ts _ (List.mem_of_getElem? hx); have h3 := Hs.out; have : tt.size ≤ textsN ts := this; omega
      have hto := HT.out
      rw [hd] at hto
      have h0 : termsOk f p ((tf, tt, tp) :: ts.drop (i + 1)) = (tf == f && wordOk tt && decide (p ≤ tp) && decide (tp ≤ 256) && termsOk f (tp + 1) (ts.drop (i + 1))) := rfl
      rw [h0, Bool.and_eq_true, Bool.and_eq_true, Bool.and_eq_true, decide_eq_true_eq, decide_eq_true_eq] at hto
      obtain ⟨⟨⟨_, hp2⟩, hp3⟩, hto⟩ := hto
      have hln := HL.out
      rw [hd] at hln
      have hdl : (ts.drop (i + 1)).length = ts.length - (i + 1) := List.length_drop
      have hln : leafL ⟨#[]⟩ 0 ts = if 1000 < (if (ts.drop (i + 1)).length = 0 then addA s (tp - p).toNat ++ tt else (addA s (tp - p).toNat ++ tt) ++ ⟨#[32]⟩).size then (if (ts.drop (i + 1)).length = 0 then addA s (tp - p).toNat ++ tt else (addA s (tp - p).toNat ++ tt) ++ ⟨#[32]⟩) else leafL (if (ts.drop (i + 1)).length = 0 then addA s (tp - p).toNat ++ tt else (addA s (tp - p).toNat ++ tt) ++ ⟨#[32]⟩) (tp + 1) (ts.drop (i + 1)) := hln
      rw [hdl] at hln
      have hsa : (addA s (tp - p).toNat).size ≤ 1600 := by rw [addA_size]; omega
      clear g1 hk1 hx hd h0 HL HT hdl
      have Hto := hid hto
      have Hln := hid hln
      have Hsa := hid hsa
      clear hto hln hsa
      go_wp2_with fail
      go_loopw [3, 4] (fun sv pv wx => ∃ (q : Int) (s' : ByteArray), sv = .string s' ∧ pv = .int .i64 q ∧ 0 ≤ q ∧ q ≤ tp ∧ s'.size ≤ 1600 ∧ Hid (addA s (tp - p).toNat = addA s' (tp - q).toNat) ∧ W1 = wx) (fun _ pv _ => (tp - intOf pv).toNat)
      case atStart => exact ⟨p, s, rfl, rfl, hp0, hp2, by omega, hid rfl, rfl⟩
      case round =>
        obtain ⟨q, s', rfl, rfl, hq0, hq1, hss', HA, rfl⟩ := hrel
        by_cases hql : q < tp
        · have ha2 : addA s (tp - p).toNat = addA (s' ++ ⟨#[97, 32]⟩) (tp - (q + 1)).toNat := by
            rw [HA.out, show (tp - q).toNat = (tp - (q + 1)).toNat + 1 by omega]
            rfl
          have hsz : (s' ++ ⟨#[97, 32]⟩).size ≤ 1600 := by
            have h5 := Hsa.out
            rw [ha2, addA_size] at h5
            omega
          clear HA
          have Ha2 := hid ha2
          clear ha2
          go_wp2_with fail
          go_roundw
          case rel => exact ⟨q + 1, s' ++ ⟨#[97, 32]⟩, rfl, rfl, by omega, by omega, hsz, Ha2, by first | trivial | rfl⟩
          case measure => first | (simp [intOf]; done) | (simp [intOf]; omega)
        · obtain rfl : q = tp := by omega
          have ha3 : addA s (q - p).toNat = s' := by
            rw [HA.out, show (q - q).toNat = 0 by omega]
            rfl
          have hln := Hln.out
          rw [ha3] at hln
          have hq2 : ¬ q < q := by omega
          have hsx : (s' ++ tt).size ≤ 4600 := by rw [ByteArray.size_append]; omega
          clear HA ha3 Hln Hsa
          by_cases hlast : (i : Int) < (ts.length : Int) - 1
          · rw [if_neg (by omega : ¬ ts.length - (i + 1) = 0)] at hln
            by_cases hbig : 1000 < ((s' ++ tt) ++ ⟨#[32]⟩).size
            · rw [if_pos hbig] at hln
              have hbI : (1000 : Int) < (s'.size : Int) + (tt.size : Int) + 1 := by
                rw [ByteArray.size_append, ByteArray.size_append] at hbig
                have : (⟨#[32]⟩ : ByteArray).size = 1 := rfl
                omega
              have Hln := hid hln
              clear hln
              have hnn := u8v_of (48 + f).toNat (by omega)
              rw [show (((48 + f).toNat : Nat) : Int) = 48 + f by omega] at hnn
              have hpre : (⟨#[UInt8.ofNat (48 + f).toNat, 58]⟩ : ByteArray).size = 2 := rfl
              have hcv0 : (convert 67 9 (.slice (some ⟨W1.heap.size, 0, none⟩) 2 2)).run Tryd.prog (W1.alloc (.cells #[.int .u8 (48 + f), .int .u8 58] 5)) = .ok (.string ⟨#[UInt8.ofNat (48 + f).toNat, 58]⟩) (W1.alloc (.cells #[.int .u8 (48 + f), .int .u8 58] 5)) := by
                have hNB := NewB.lit W1 [UInt8.ofNat (48 + f).toNat, 58] 2 5 rfl rfl (by decide)
                rw [List.map_cons, List.map_cons, List.map_nil, hnn] at hNB
                exact conv_own (P := Tryd.prog) Tryd.underlying67 Tryd.underlying5 Tryd.underlying9 (bs := [UInt8.ofNat (48 + f).toNat, 58]) hNB.1
              have hrx : leafRX f ts = ⟨#[UInt8.ofNat (48 + f).toNat, 58]⟩ ++ (if ts.length = 1 then ((s' ++ tt) ++ ⟨#[32]⟩) else (⟨#[34]⟩ ++ ((s' ++ tt) ++ ⟨#[32]⟩)) ++ ⟨#[34]⟩) := by unfold leafRX; rw [Hln.out]
              generalize (⟨#[UInt8.ofNat (48 + f).toNat, 58]⟩ : ByteArray) = pre at *
              have hk7 : Keeps (· < w.heap.size) w (W1.alloc (.cells #[.int .u8 (48 + f), .int .u8 58] 5)) := Hkw.out.alloc (fun b hb => Nat.lt_of_lt_of_le hb Hkw.out.size) _
              clear hnn Hln
              have Hk7 := hid hk7
              clear hk7
              by_cases h1 : ts.length = 1
              · have hl1 : ((ts.length : Int) != 1) = false := by simp [h1]
                rw [if_pos h1] at hrx
                clear h1
                have Hrx := hid hrx
                clear hrx
                go_wp2_with fail
                exact hR'.out _ _ ⟨by rw [Hrx.out], Hk7.out⟩
              · have hl1 : ((ts.length : Int) != 1) = true := by
                  have : (ts.length : Int) ≠ 1 := by omega
                  simpa using this
                rw [if_neg h1] at hrx
                clear h1
                have Hrx := hid hrx
                clear hrx
                go_wp2_with fail
                exact hR'.out _ _ ⟨by rw [Hrx.out], Hk7.out⟩
            · rw [if_neg hbig] at hln
              have hbI : ¬ (1000 : Int) < (s'.size : Int) + (tt.size : Int) + 1 := by
                rw [ByteArray.size_append, ByteArray.size_append] at hbig
                have : (⟨#[32]⟩ : ByteArray).size = 1 := rfl
                omega
              have Hln := hid hln
              clear hln
              go_wp2_with fail
              go_roundw
              case rel => exact ⟨i + 1, q + 1, (s' ++ tt) ++ ⟨#[32]⟩, by first | rfl | go_num, by go_num, by go_num, by omega, by omega, by omega, by omega, Hln, Hto, by first | trivial | rfl⟩
              case measure => first | (simp [intOf]; done) | (simp [intOf]; omega)
          · rw [if_pos (by omega : ts.length - (i + 1) = 0)] at hln
            by_cases hbig : 1000 < (s' ++ tt).size
            · rw [if_pos hbig] at hln
              have hbI : (1000 : Int) < (s'.size : Int) + (tt.size : Int) := by
                rw [ByteArray.size_append] at hbig
                omega
              have Hln := hid hln
              clear hln
              have hnn := u8v_of (48 + f).toNat (by omega)
              rw [show (((48 + f).toNat : Nat) : Int) = 48 + f by omega] at hnn
              have hpre : (⟨#[UInt8.ofNat (48 + f).toNat, 58]⟩ : ByteArray).size = 2 := rfl
              have hcv0 : (convert 67 9 (.slice (some ⟨W1.heap.size, 0, none⟩) 2 2)).run Tryd.prog (W1.alloc (.cells #[.int .u8 (48 + f), .int .u8 58] 5)) = .ok (.string ⟨#[UInt8.ofNat (48 + f).toNat, 58]⟩) (W1.alloc (.cells #[.int .u8 (48 + f), .int .u8 58] 5)) := by
                have hNB := NewB.lit W1 [UInt8.ofNat (48 + f).toNat, 58] 2 5 rfl rfl (by decide)
                rw [List.map_cons, List.map_cons, List.map_nil, hnn] at hNB
                exact conv_own (P := Tryd.prog) Tryd.underlying67 Tryd.underlying5 Tryd.underlying9 (bs := [UInt8.ofNat (48 + f).toNat, 58]) hNB.1
              have hrx : leafRX f ts = ⟨#[UInt8.ofNat (48 + f).toNat, 58]⟩ ++ (if ts.length = 1 then (s' ++ tt) else (⟨#[34]⟩ ++ (s' ++ tt)) ++ ⟨#[34]⟩) := by unfold leafRX; rw [Hln.out]
              generalize (⟨#[UInt8.ofNat (48 + f).toNat, 58]⟩ : ByteArray) = pre at *
              have hk7 : Keeps (· < w.heap.size) w (W1.alloc (.cells #[.int .u8 (48 + f), .int .u8 58] 5)) := Hkw.out.alloc (fun b hb => Nat.lt_of_lt_of_le hb Hkw.out.size) _
              clear hnn Hln
              have Hk7 := hid hk7
              clear hk7
              by_cases h1 : ts.length = 1
              · have hl1 : ((ts.length : Int) != 1) = false := by simp [h1]
                rw [if_pos h1] at hrx
                clear h1
                have Hrx := hid hrx
                clear hrx
                go_wp2_with fail
                exact hR'.out _ _ ⟨by rw [Hrx.out], Hk7.out⟩
              · have hl1 : ((ts.length : Int) != 1) = true := by
                  have : (ts.length : Int) ≠ 1 := by omega
                  simpa using this
                rw [if_neg h1] at hrx
                clear h1
                have Hrx := hid hrx
                clear hrx
                go_wp2_with fail
                exact hR'.out _ _ ⟨by rw [Hrx.out], Hk7.out⟩
            · rw [if_neg hbig] at hln
              have hbI : ¬ (1000 : Int) < (s'.size : Int) + (tt.size : Int) := by
                rw [ByteArray.size_append] at hbig
                omega
              have Hln := hid hln
              clear hln
              go_wp2_with fail
              go_roundw
              case rel => exact ⟨i + 1, q + 1, s' ++ tt, by first | rfl | go_num, by go_num, by go_num, by omega, by omega, by omega, by omega, Hln, Hto, by first | trivial | rfl⟩
              case measure => first | (simp [intOf]; done) | (simp [intOf]; omega)
    · obtain rfl : i = ts.length := by omega
      have hltI : ¬ (ts.length : Int) < (ts.length : Int) := by omega
      have hln := HL.out
      rw [List.drop_length] at hln
      have hln : leafL ⟨#[]⟩ 0 ts = s := hln
      clear HL HT
      have Hln := hid hln
      clear hln
      have hnn := u8v_of (48 + f).toNat (by omega)
      rw [show (((48 + f).toNat : Nat) : Int) = 48 + f by omega] at hnn
      have hpre : (⟨#[UInt8.ofNat (48 + f).toNat, 58]⟩ : ByteArray).size = 2 := rfl
      have hcv0 : (convert 67 9 (.slice (some ⟨W1.heap.size, 0, none⟩) 2 2)).run Tryd.prog (W1.alloc (.cells #[.int .u8 (48 + f), .int .u8 58] 5)) = .ok (.string ⟨#[UInt8.ofNat (48 + f).toNat, 58]⟩) (W1.alloc (.cells #[.int .u8 (48 + f), .int .u8 58] 5)) := by
        have hNB := NewB.lit W1 [UInt8.ofNat (48 + f).toNat, 58] 2 5 rfl rfl (by decide)
        rw [List.map_cons, List.map_cons, List.map_nil, hnn] at hNB
        exact conv_own (P := Tryd.prog) Tryd.underlying67 Tryd.underlying5 Tryd.underlying9 (bs := [UInt8.ofNat (48 + f).toNat, 58]) hNB.1
      have hrx : leafRX f ts = ⟨#[UInt8.ofNat (48 + f).toNat, 58]⟩ ++ (if ts.length = 1 then s else (⟨#[34]⟩ ++ s) ++ ⟨#[34]⟩) := by unfold leafRX; rw [Hln.out]
      generalize (⟨#[UInt8.ofNat (48 + f).toNat, 58]⟩ : ByteArray) = pre at *
      have hk7 : Keeps (· < w.heap.size) w (W1.alloc (.cells #[.int .u8 (48 + f), .int .u8 58] 5)) := Hkw.out.alloc (fun b hb => Nat.lt_of_lt_of_le hb Hkw.out.size) _
      clear hnn Hln
      have Hk7 := hid hk7
      clear hk7
      by_cases h1 : ts.length = 1
      · have hl1 : ((ts.length : Int) != 1) = false := by simp [h1]
        rw [if_pos h1] at hrx
        clear h1
        have Hrx := hid hrx
        clear hrx
        go_wp2_with fail
        exact hR'.out _ _ ⟨by rw [Hrx.out], Hk7.out⟩
      · have hl1 : ((ts.length : Int) != 1) = true := by
          have : (ts.length : Int) ≠ 1 := by omega
          simpa using this
        rw [if_neg h1] at hrx
        clear h1
        have Hrx := hid hrx
        clear hrx
        go_wp2_with fail
        exact hR'.out _ _ ⟨by rw [Hrx.out], Hk7.out⟩
end Go.Proofs.YtbepgbkbpkaodaaDoor
