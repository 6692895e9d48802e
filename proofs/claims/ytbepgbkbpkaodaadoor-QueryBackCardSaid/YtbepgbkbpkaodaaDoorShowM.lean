/- Layer 17's document: Show. -/
import Derived.Test.YtbepgbkbpkaodaaDoorShowK
namespace Go.Proofs.YtbepgbkbpkaodaaDoor
open Go.RowKit

theorem digits_of {li : Int} (h0 : 0 ≤ li) (h1 : li ≤ 64) : Lib.decDigits li.toNat = if 9 < li then [UInt8.ofNat (48 + li / 10).toNat, UInt8.ofNat (48 + li % 10).toNat] else [UInt8.ofNat (48 + li % 10).toNat] := by
  by_cases h9 : 9 < li
  · rw [if_pos h9, Lib.decDigits_two (by omega) (by omega), show 48 + li.toNat / 10 = (48 + li / 10).toNat by omega, show 48 + li.toNat % 10 = (48 + li % 10).toNat by omega]
  · rw [if_neg h9, Lib.decDigits_one (by omega), show 48 + li.toNat = (48 + li % 10).toNat by omega]
theorem conv1 (W : World) (d : Int) (h0 : 0 ≤ d) (h1 : d ≤ 255) : (convert 67 9 (.slice (some ⟨W.heap.size, 0, none⟩) 1 1)).run Tryd.prog (W.alloc (.cells #[.int .u8 d] 5)) = .ok (.string ⟨#[UInt8.ofNat d.toNat]⟩) (W.alloc (.cells #[.int .u8 d] 5)) := by
  have hNB := NewB.lit W [UInt8.ofNat d.toNat] 1 5 rfl rfl (by decide)
  have hnn := u8v_of d.toNat (by omega)
  rw [show ((d.toNat : Nat) : Int) = d by omega] at hnn
  rw [List.map_cons, List.map_nil, hnn] at hNB
  exact conv_own (P := Tryd.prog) Tryd.underlying67 Tryd.underlying5 Tryd.underlying9 (bs := [UInt8.ofNat d.toNat]) hNB.1
theorem showR_text {n : Nd} {li o : Int} (h : mayQ n li o = true) : showR n li o = if 256 < ((rtxt n).data.toList ++ tailT li o).length then ([], 4) else ((rtxt n).data.toList ++ tailT li o, 0) := by
  unfold showR
  rw [h, if_neg (by decide)]
  have hok : okN n 0 = true := by
    unfold mayQ at h
    rw [Bool.and_eq_true] at h
    exact h.2
  rcases rtxt_full _ n (Nat.le_refl _) 0 hok with h | ⟨h1, h2⟩
  · rw [h]
  · rw [if_pos (by rw [List.length_append]; omega), if_pos (by rw [List.length_append]; omega)]
theorem mayQ_ok {n : Nd} {li o : Int} (h : mayQ n li o = true) : 0 ≤ li ∧ li ≤ 64 ∧ (o = 0 ∨ o = 1) ∧ okN n 0 = true := by
  unfold mayQ at h
  rw [Bool.and_eq_true, Bool.and_eq_true, Bool.and_eq_true, Bool.or_eq_true, decide_eq_true_eq, decide_eq_true_eq, beq_iff_eq, beq_iff_eq] at h
  exact ⟨h.1.1.1, h.1.1.2, h.1.2, h.2⟩
set_option maxRecDepth 100000 in
set_option maxHeartbeats 4000000 in
theorem ref17_Show (n : Nd) (w : World) (K : Nat → Prop) (k f : Int) (A1 A2 : Option Addr) (n1 c1 n2 c2 m : Nat) (li o : Int) (hb : ∀ b, K b → b < w.heap.size) (hv : NodeV w K n [.int .i64 k, .int .u8 f, .slice A1 n1 c1, .slice A2 n2 c2]) (ho : NdOk n) (ht : Tot n m) (hm : m ≤ 3000) :
    Calls Tryd.prog 19 #[.agg #[.int .i64 k, .int .u8 f, .slice A1 n1 c1, .slice A2 n2 c2, .int .i64 li, .int .i64 o]] w fun e w' => e = .returned (.tuple #[.string ⟨(showR n li o).1.toArray⟩, .int .i64 (showR n li o).2]) ∧ Keeps (· < w.heap.size) w w' := by
  have hkw : Keeps (· < w.heap.size) w (w.alloc (.cells #[.int .i64 k, .int .u8 f, .slice A1 n1 c1, .slice A2 n2 c2, .int .i64 li, .int .i64 o] 28)) := (Keeps.refl _ _).alloc (fun b hb => hb) _
  have hB : Blk (w.alloc (.cells #[.int .i64 k, .int .u8 f, .slice A1 n1 c1, .slice A2 n2 c2, .int .i64 li, .int .i64 o] 28)) w.heap.size [.int .i64 k, .int .u8 f, .slice A1 n1 c1, .slice A2 n2 c2, .int .i64 li, .int .i64 o] := Blk.new w _ _
  have hM := ref17_May n (w.alloc (.cells #[.int .i64 k, .int .u8 f, .slice A1 n1 c1, .slice A2 n2 c2, .int .i64 li, .int .i64 o] 28)) K k f A1 A2 n1 c1 n2 c2 m li o (fun b h => Nat.lt_of_lt_of_le (hb b h) hkw.size) (hv.keepK hkw hb) ho ht hm
  have hfin : ∀ R' : Ending → World → Prop, (∀ e w', (e = .returned (.tuple #[.string ⟨(showR n li o).1.toArray⟩, .int .i64 (showR n li o).2]) ∧ Keeps (· < w.heap.size) w w') → R' e w') → ∀ w', Keeps (· < w.heap.size) w w' → mayQ n li o = false → R' (.returned (.tuple #[.string ⟨#[]⟩, .int .i64 8])) w' := fun R' h w' hk hq => h _ _ ⟨by unfold showR; rw [if_pos hq], hk⟩
  have hT : mayQ n li o = true → ∀ W, Keeps (· < w.heap.size) w W → Calls Tryd.prog 37 #[.agg #[.int .i64 k, .int .u8 f, .slice A1 n1 c1, .slice A2 n2 c2]] W fun e w' => e = .returned (.string (rtxt n)) ∧ Keeps (· < W.heap.size) W w' := fun hq W hk => ref17_text _ n (Nat.le_refl _) W K k f A1 A2 n1 c1 n2 c2 m (fun b h => Nat.lt_of_lt_of_le (hb b h) hk.size) (hv.keepK hk hb) ho ht hm ⟨0, (mayQ_ok hq).2.2.2⟩
  have hsz : mayQ n li o = true → (rtxt n).size ≤ 6000000 := fun hq => by have := rtxt_size ht 0 (mayQ_ok hq).2.2.2; omega
  have hq0 : ∀ h : mayQ n li o = true, _ := @showR_text n li o
  clear hv hb ho ht
  cases hmq : mayQ n li o with
  | false =>
    rw [hmq] at hM
    clear hT hq0 hsz
    have HM := hid hM
    have Hkw := hid hkw
    have HB := hid hB
    have Hfin := hid hfin
    have Hmq := hid hmq
    clear hM hkw hB hfin hmq
    refine calls_hide fun R' hR' => ?_
    go_enter Tryd.func19, Tryd.ntmps19
    go_wp2_with fail
    refine HM.out.mono ?_
    rintro e w2 ⟨rfl, g3⟩
    have hk2 := Hkw.out.trans (g3.mono fun b hb => Nat.lt_of_lt_of_le hb Hkw.out.size)
    clear g3 HM
    have Hk2 := hid hk2
    clear hk2
    go_wp2_with fail
    exact Hfin.out R' hR'.out _ Hk2.out Hmq.out
  | true =>
    rw [hmq] at hM
    obtain ⟨l0, l1, ho, _⟩ := mayQ_ok hmq
    have hT := hT hmq
    have hsr := hq0 hmq
    have hsz := hsz hmq
    have hdg := digits_of l0 l1
    clear hfin hq0 hmq
    have htl : tailT li o = [32, 35] ++ Lib.decDigits li.toNat ++ orderT o := rfl
    rw [hdg] at htl
    rw [htl] at hsr
    generalize rtxt n = rt at *
    generalize showR n li o = sr at *
    clear hdg htl
    have HM := hid hM
    have Hkw := hid hkw
    have HB := hid hB
    have HT := hid hT
    have Hsr := hid hsr
    clear hM hkw hB hT hsr
    refine calls_hide fun R' hR' => ?_
    go_enter Tryd.func19, Tryd.ntmps19
    go_wp2_with fail
    refine HM.out.mono ?_
    rintro e w2 ⟨rfl, g3⟩
    have hk2 := Hkw.out.trans (g3.mono fun b hb => Nat.lt_of_lt_of_le hb Hkw.out.size)
    have hB2 := HB.out.keep g3 HB.out.lt
    have hw2 := hB2.lt
    clear g3 HM
    have hB3 := hid hB2
    have z0 := (hB2).cell 0
    have z1 := (hB2).cell 1
    have z2 := (hB2).cell 2
    have z3 := (hB2).cell 3
    have z4 := (hB2).cell 4
    have z5 := (hB2).cell 5
    simp only [List.getElem?_cons_zero, List.getElem?_cons_succ] at z0 z1 z2 z3 z4 z5
    clear hB2
    have Hk2 := hid hk2
    clear hk2
    go_wp2_with fail
    refine (HT.out _ Hk2.out).mono ?_
    rintro e w3 ⟨rfl, g3⟩
    have hk3 := Hk2.out.trans (g3.mono fun b hb => Nat.lt_of_lt_of_le hb Hk2.out.size)
    have hB4 := hB3.out.keep g3 hw2
    have hw3 := hB4.lt
    clear g3 HT z0 z1 z2 z3 z4 z5 hw2 Hk2
    have z0 := (hB4).cell 0
    have z1 := (hB4).cell 1
    have z2 := (hB4).cell 2
    have z3 := (hB4).cell 3
    have z4 := (hB4).cell 4
    have z5 := (hB4).cell 5
    simp only [List.getElem?_cons_zero, List.getElem?_cons_succ] at z0 z1 z2 z3 z4 z5
    clear hB4
    have Hk3 := hid hk3
    clear hk3
    have hg0 : 0 ≤ 48 + li / 10 := by omega
    have hg1 : 48 + li / 10 ≤ 255 := by omega
    have hg2 : 0 ≤ 48 + li % 10 := by omega
    have hg3 : 48 + li % 10 ≤ 255 := by omega
    have hcv := conv1 w3 (48 + li / 10) hg0 hg1
    have hcw := conv1 w3 (48 + li % 10) hg2 hg3
    have hcx := conv1 (w3.alloc (.cells #[.int .u8 (48 + li / 10)] 5)) (48 + li % 10) hg2 hg3
    have hkv : ∀ v : Value, Keeps (· < w.heap.size) w (w3.alloc (.cells #[v] 5)) := fun v => Hk3.out.alloc (fun b hb => Nat.lt_of_lt_of_le hb Hk3.out.size) _
    have hkx : ∀ v v' : Value, Keeps (· < w.heap.size) w ((w3.alloc (.cells #[v] 5)).alloc (.cells #[v'] 5)) := fun v v' => (hkv v).alloc (fun b hb => Nat.lt_of_lt_of_le hb (hkv v).size) _
    clear hg0 hg1 hg2 hg3
    rw [World.size_alloc] at hcx
    have Hkv := hid hkv
    have Hkx := hid hkx
    clear hkv hkx
    by_cases h9 : 9 < li
    · have h9b : decide (9 < li) = true := decide_eq_true h9
      have hsr := Hsr.out
      rw [if_pos h9] at hsr
      clear Hsr hcw
      rcases ho with rfl | rfl
      · have hfull : ((((rt ++ ⟨#[32, 35]⟩) ++ ⟨#[UInt8.ofNat (48 + li / 10).toNat]⟩) ++ ⟨#[UInt8.ofNat (48 + li % 10).toNat]⟩) ++ ⟨#[32, 64, 114, 97, 110, 107]⟩).data.toList = rt.data.toList ++ ([32, 35] ++ [UInt8.ofNat (48 + li / 10).toNat, UInt8.ofNat (48 + li % 10).toNat] ++ orderT 0) := by
          simp only [ByteArray.data_append, Array.toList_append, List.append_assoc]
          rfl
        have hlen : (rt.data.toList ++ ([32, 35] ++ [UInt8.ofNat (48 + li / 10).toNat, UInt8.ofNat (48 + li % 10).toNat] ++ orderT 0)).length = rt.size + 10 := by
          rw [List.length_append, bsize]
          rfl
        rw [hlen] at hsr
        have hres : ¬ 256 < rt.size + 10 → R' (.returned (.tuple #[.string ((((rt ++ ⟨#[32, 35]⟩) ++ ⟨#[UInt8.ofNat (48 + li / 10).toNat]⟩) ++ ⟨#[UInt8.ofNat (48 + li % 10).toNat]⟩) ++ ⟨#[32, 64, 114, 97, 110, 107]⟩), .int .i64 0])) ((w3.alloc (.cells #[.int .u8 (48 + li / 10)] 5)).alloc (.cells #[.int .u8 (48 + li % 10)] 5)) := fun hq => hR'.out _ _ ⟨by rw [hsr, if_neg hq, ba_eq hfull], Hkx.out _ _⟩
        have hbad : 256 < rt.size + 10 → R' (.returned (.tuple #[.string ⟨#[]⟩, .int .i64 4])) ((w3.alloc (.cells #[.int .u8 (48 + li / 10)] 5)).alloc (.cells #[.int .u8 (48 + li % 10)] 5)) := fun hq => hR'.out _ _ ⟨by rw [hsr, if_pos hq], Hkx.out _ _⟩
        have hs2 : (⟨#[UInt8.ofNat (48 + li % 10).toNat]⟩ : ByteArray).size = 1 := rfl
        have hs1 : (⟨#[UInt8.ofNat (48 + li / 10).toNat]⟩ : ByteArray).size = 1 := rfl
        clear hfull hlen hsr
        generalize (⟨#[UInt8.ofNat (48 + li / 10).toNat]⟩ : ByteArray) = g1 at *
        generalize (⟨#[UInt8.ofNat (48 + li % 10).toNat]⟩ : ByteArray) = g2 at *
        have Hres := hid hres
        have Hbad := hid hbad
        clear hres hbad
        by_cases hq : 256 < rt.size + 10
        · have hqI : (256 : Int) < (rt.size : Int) + 2 + 1 + 1 + 6 := by omega
          have hbad := Hbad.out hq
          clear hq Hres Hbad
          have Hbad := hid hbad
          clear hbad
          go_wp2_with fail
          exact Hbad.out
        · have hqI : ¬ (256 : Int) < (rt.size : Int) + 2 + 1 + 1 + 6 := by omega
          have hres := Hres.out hq
          clear hq Hres Hbad
          have Hres := hid hres
          clear hres
          go_wp2_with fail
          exact Hres.out
      · have hfull : ((((rt ++ ⟨#[32, 35]⟩) ++ ⟨#[UInt8.ofNat (48 + li / 10).toNat]⟩) ++ ⟨#[UInt8.ofNat (48 + li % 10).toNat]⟩) ++ ⟨#[32, 64, 110, 101, 119]⟩).data.toList = rt.data.toList ++ ([32, 35] ++ [UInt8.ofNat (48 + li / 10).toNat, UInt8.ofNat (48 + li % 10).toNat] ++ orderT 1) := by
          simp only [ByteArray.data_append, Array.toList_append, List.append_assoc]
          rfl
        have hlen : (rt.data.toList ++ ([32, 35] ++ [UInt8.ofNat (48 + li / 10).toNat, UInt8.ofNat (48 + li % 10).toNat] ++ orderT 1)).length = rt.size + 9 := by
          rw [List.length_append, bsize]
          rfl
        rw [hlen] at hsr
        have hres : ¬ 256 < rt.size + 9 → R' (.returned (.tuple #[.string ((((rt ++ ⟨#[32, 35]⟩) ++ ⟨#[UInt8.ofNat (48 + li / 10).toNat]⟩) ++ ⟨#[UInt8.ofNat (48 + li % 10).toNat]⟩) ++ ⟨#[32, 64, 110, 101, 119]⟩), .int .i64 0])) ((w3.alloc (.cells #[.int .u8 (48 + li / 10)] 5)).alloc (.cells #[.int .u8 (48 + li % 10)] 5)) := fun hq => hR'.out _ _ ⟨by rw [hsr, if_neg hq, ba_eq hfull], Hkx.out _ _⟩
        have hbad : 256 < rt.size + 9 → R' (.returned (.tuple #[.string ⟨#[]⟩, .int .i64 4])) ((w3.alloc (.cells #[.int .u8 (48 + li / 10)] 5)).alloc (.cells #[.int .u8 (48 + li % 10)] 5)) := fun hq => hR'.out _ _ ⟨by rw [hsr, if_pos hq], Hkx.out _ _⟩
        have hs2 : (⟨#[UInt8.ofNat (48 + li % 10).toNat]⟩ : ByteArray).size = 1 := rfl
        have hs1 : (⟨#[UInt8.ofNat (48 + li / 10).toNat]⟩ : ByteArray).size = 1 := rfl
        clear hfull hlen hsr
        generalize (⟨#[UInt8.ofNat (48 + li / 10).toNat]⟩ : ByteArray) = g1 at *
        generalize (⟨#[UInt8.ofNat (48 + li % 10).toNat]⟩ : ByteArray) = g2 at *
        have Hres := hid hres
        have Hbad := hid hbad
        clear hres hbad
        by_cases hq : 256 < rt.size + 9
        · have hqI : (256 : Int) < (rt.size : Int) + 2 + 1 + 1 + 5 := by omega
          have hbad := Hbad.out hq
          clear hq Hres Hbad
          have Hbad := hid hbad
          clear hbad
          go_wp2_with fail
          exact Hbad.out
        · have hqI : ¬ (256 : Int) < (rt.size : Int) + 2 + 1 + 1 + 5 := by omega
          have hres := Hres.out hq
          clear hq Hres Hbad
          have Hres := hid hres
          clear hres
          go_wp2_with fail
          exact Hres.out
    · have h9b : decide (9 < li) = false := decide_eq_false h9
      have hsr := Hsr.out
      rw [if_neg h9] at hsr
      clear Hsr hcv hcx
      rcases ho with rfl | rfl
      · have hfull : (((rt ++ ⟨#[32, 35]⟩) ++ ⟨#[UInt8.ofNat (48 + li % 10).toNat]⟩) ++ ⟨#[32, 64, 114, 97, 110, 107]⟩).data.toList = rt.data.toList ++ ([32, 35] ++ [UInt8.ofNat (48 + li % 10).toNat] ++ orderT 0) := by
          simp only [ByteArray.data_append, Array.toList_append, List.append_assoc]
          rfl
        have hlen : (rt.data.toList ++ ([32, 35] ++ [UInt8.ofNat (48 + li % 10).toNat] ++ orderT 0)).length = rt.size + 9 := by
          rw [List.length_append, bsize]
          rfl
        rw [hlen] at hsr
        have hres : ¬ 256 < rt.size + 9 → R' (.returned (.tuple #[.string (((rt ++ ⟨#[32, 35]⟩) ++ ⟨#[UInt8.ofNat (48 + li % 10).toNat]⟩) ++ ⟨#[32, 64, 114, 97, 110, 107]⟩), .int .i64 0])) (w3.alloc (.cells #[.int .u8 (48 + li % 10)] 5)) := fun hq => hR'.out _ _ ⟨by rw [hsr, if_neg hq, ba_eq hfull], Hkv.out _⟩
        have hbad : 256 < rt.size + 9 → R' (.returned (.tuple #[.string ⟨#[]⟩, .int .i64 4])) (w3.alloc (.cells #[.int .u8 (48 + li % 10)] 5)) := fun hq => hR'.out _ _ ⟨by rw [hsr, if_pos hq], Hkv.out _⟩
        have hs2 : (⟨#[UInt8.ofNat (48 + li % 10).toNat]⟩ : ByteArray).size = 1 := rfl
        skip
        clear hfull hlen hsr
        skip
        generalize (⟨#[UInt8.ofNat (48 + li % 10).toNat]⟩ : ByteArray) = g2 at *
        have Hres := hid hres
        have Hbad := hid hbad
        clear hres hbad
        by_cases hq : 256 < rt.size + 9
        · have hqI : (256 : Int) < (rt.size : Int) + 2 + 1 + 6 := by omega
          have hbad := Hbad.out hq
          clear hq Hres Hbad
          have Hbad := hid hbad
          clear hbad
          go_wp2_with fail
          exact Hbad.out
        · have hqI : ¬ (256 : Int) < (rt.size : Int) + 2 + 1 + 6 := by omega
          have hres := Hres.out hq
          clear hq Hres Hbad
          have Hres := hid hres
          clear hres
          go_wp2_with fail
          exact Hres.out
      · have hfull : (((rt ++ ⟨#[32, 35]⟩) ++ ⟨#[UInt8.ofNat (48 + li % 10).toNat]⟩) ++ ⟨#[32, 64, 110, 101, 119]⟩).data.toList = rt.data.toList ++ ([32, 35] ++ [UInt8.ofNat (48 + li % 10).toNat] ++ orderT 1) := by
          simp only [ByteArray.data_append, Array.toList_append, List.append_assoc]
          rfl
        have hlen : (rt.data.toList ++ ([32, 35] ++ [UInt8.ofNat (48 + li % 10).toNat] ++ orderT 1)).length = rt.size + 8 := by
          rw [List.length_append, bsize]
          rfl
        rw [hlen] at hsr
        have hres : ¬ 256 < rt.size + 8 → R' (.returned (.tuple #[.string (((rt ++ ⟨#[32, 35]⟩) ++ ⟨#[UInt8.ofNat (48 + li % 10).toNat]⟩) ++ ⟨#[32, 64, 110, 101, 119]⟩), .int .i64 0])) (w3.alloc (.cells #[.int .u8 (48 + li % 10)] 5)) := fun hq => hR'.out _ _ ⟨by rw [hsr, if_neg hq, ba_eq hfull], Hkv.out _⟩
        have hbad : 256 < rt.size + 8 → R' (.returned (.tuple #[.string ⟨#[]⟩, .int .i64 4])) (w3.alloc (.cells #[.int .u8 (48 + li % 10)] 5)) := fun hq => hR'.out _ _ ⟨by rw [hsr, if_pos hq], Hkv.out _⟩
        have hs2 : (⟨#[UInt8.ofNat (48 + li % 10).toNat]⟩ : ByteArray).size = 1 := rfl
        skip
        clear hfull hlen hsr
        skip
        generalize (⟨#[UInt8.ofNat (48 + li % 10).toNat]⟩ : ByteArray) = g2 at *
        have Hres := hid hres
        have Hbad := hid hbad
        clear hres hbad
        by_cases hq : 256 < rt.size + 8
        · have hqI : (256 : Int) < (rt.size : Int) + 2 + 1 + 5 := by omega
          have hbad := Hbad.out hq
          clear hq Hres Hbad
          have Hbad := hid hbad
          clear hbad
          go_wp2_with fail
          exact Hbad.out
        · have hqI : ¬ (256 : Int) < (rt.size : Int) + 2 + 1 + 5 := by omega
          have hres := Hres.out hq
          clear hq Hres Hbad
          have Hres := hid hres
          clear hres
          go_wp2_with fail
          exact Hres.out
end Go.Proofs.YtbepgbkbpkaodaaDoor
