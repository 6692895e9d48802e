/- DictTails: the walk. -/
import Derived.Test.YtjnaibmnpajfdaaLawDT
namespace Go.Proofs.Ytjnaibmnpajfdaa
open Go.RowKit

set_option maxRecDepth 100000 in
set_option maxHeartbeats 8000000 in
theorem dt_walk (key : ByteArray) (C : Option Addr) (cc : Nat) (tails : List Int) (w : World) (hU : ∀ x ∈ tails, U32 x)
    (hsc : SlAt w (· < w.heap.size) 1 (.slice C tails.length cc) tails.length (tails.map (Value.int .u32))) :
    Calls Try.prog 11 #[.string key, .slice C tails.length cc] w fun e w' => e = .returned (.bool true) ∧ Keeps (· < w.heap.size) w w' := by
  obtain ⟨A0, cap0, he, hcc1, hcc2⟩ := hsc.form
  injection he with e1 _ e3
  subst e1 e3
  unfold maxLen at hcc2
  have Hsc := hid hsc
  have HU := hid hU
  clear hsc hU
  refine calls_hide fun R' hR' => ?_
  go_enter Try.func11, Try.ntmps11
  go_wp2_with fail
  refine (plan10 100 (by decide) (by decide) _).mono ?_
  rintro e w1 ⟨rfl, hk1⟩
  unfold planD PlanM.val
  have hz1 := hk1.size
  have Hk1 := hid hk1
  clear hk1
  go_wp2_with fail
  refine calls_gen (fun W => Blk W w1.heap.size [.int .i64 3, .int .i64 3, .int .i64 3, .int .i64 3, .int .i64 3, .int .i64 103, .int .i64 0, .int .i64 0, .int .i64 0, .int .i64 0, .int .i64 100, .int .i64 16, .int .i64 119, .int .i64 128, .int .i64 133] ∧ Keeps (· < w.heap.size) w W) ⟨?_, ?_⟩ ?_
  · repeat (first | with_reducible assumption | with_reducible exact Blk.new _ _ _ | with_reducible refine Blk.drew ?_ | with_reducible refine Blk.drewN ?_ _ | with_reducible refine Blk.set_ne ?_ _ ?_ | (with_reducible refine Blk.new' _ _ _ ?_; focus (simp; done)) | with_reducible refine Blk.alloc ?_ _)
    all_goals (first | assumption | (simp; done) | (simp; omega))
  · exact Hk1.out.alloc (fun b hb => by omega) _
  rintro W ⟨hB, hk⟩
  refine (mem_new W 119 (by decide) (by decide)).mono ?_
  rintro e w3 ⟨rfl, hm3, hk3, hz3⟩
  have hlb := hB.lt
  have hB3 := hB.keep hk3 hlb
  have hkk3 := hk.trans (hk3.mono fun b hb => by omega)
  have hz3' : W.heap.size + 1 < w3.heap.size := by omega
  clear hB hk hk3 Hk1 hz3
  generalize hc : W.heap.size = c at *
  generalize hmm : c + 1 = m at *
  generalize w1.heap.size = pB at *
  generalize hws : w.heap.size = ws at *
  have hcm : c < m := by omega
  have Hm3 := hid hm3
  have Hkk3 := hid hkk3
  have HB3 := hid hB3
  have Hws := hid hws
  clear hm3 hkk3 hB3 hws
  clear hc hmm
  go_wp2_with fail
  refine (fixed10 w3).mono ?_
  rintro e w4 ⟨rfl, hk4⟩
  have hm4 := Hm3.out.keep hk4 Hm3.out.obj.lt Hm3.out.cells.lt
  have hB4 := HB3.out.keep hk4 HB3.out.lt
  have hkk4 := Hkk3.out.trans (hk4.mono fun b hb => by omega)
  have hz4 : m < w4.heap.size := by have := hk4.size; omega
  clear hk4 Hm3 HB3 Hkk3 hz3'
  have p0 := (hB4).cell 0
  have p1 := (hB4).cell 1
  have p2 := (hB4).cell 2
  have p3 := (hB4).cell 3
  have p4 := (hB4).cell 4
  have p5 := (hB4).cell 5
  have p6 := (hB4).cell 6
  have p7 := (hB4).cell 7
  have p8 := (hB4).cell 8
  have p9 := (hB4).cell 9
  have p10 := (hB4).cell 10
  have p11 := (hB4).cell 11
  have p12 := (hB4).cell 12
  have p13 := (hB4).cell 13
  have p14 := (hB4).cell 14
  simp only [List.getElem?_cons_zero, List.getElem?_cons_succ] at p0 p1 p2 p3 p4 p5 p6 p7 p8 p9 p10 p11 p12 p13 p14
  have Hm4 := hid hm4
  have HB4 := hid hB4
  have Hkk4 := hid hkk4
  clear hm4 hB4 hkk4
  by_cases hsz : 100 < key.size
  · have i1 : (100 : Int) < (key.size : Int) := by omega
    go_wp2_with fail
    refine (fixed10 w4).mono ?_
    rintro e w6 ⟨rfl, hk6⟩
    have hkf := Hkk4.out.trans (hk6.mono fun b hb => by omega)
    have Hkf := hid hkf
    clear hkf
    go_wp2_with fail
    exact hR'.out _ _ ⟨rfl, Hkf.out⟩
  · have i1 : (key.size : Int) ≤ 100 := by omega
    have hpl : (packC (bsL key)).length ≤ 25 := by rw [packC_len, bsL_len]; omega
    have Hpl := hid hpl
    clear hpl
    go_wp2_with fail
    refine (put10_ok (K := fun b => b < w4.heap.size ∧ b ≠ m ∧ b ≠ c) Hm4.out (fun e => e.2.1 rfl) (fun e => e.2.2 rfl) (fun b hb => hb.1) (planD 100) ⟨0, 0, 0, 0, 0, 0⟩ 103 3 key (by omega)
      (by decide) (by decide) (by decide) (by decide) (by simp only [planD]; omega) (a := 3) (by decide) (by decide) (by have := Hpl.out; rw [List.length_replicate]; omega) (by rw [List.length_replicate]; decide)).mono ?_
    rintro e w5 ⟨rfl, ⟨μ5, hm5, hc5⟩, hk5⟩
    dsimp only
    generalize (0 : Int) + (2 + ((key.size : Int) + 3) / 4) = us
    have hl5 : μ5.cells.length = 119 := by rw [hc5, putC_len, List.length_replicate]
    have hkk5 := Hkk4.out.trans (hk5.mono fun b hb => ⟨by have hb' : b < ws := hb; omega, by have hb' : b < ws := hb; omega, by have hb' : b < ws := hb; omega⟩)
    have hz5 : m < w5.heap.size := by have := hk5.size; omega
    clear p0 p1 p2 p3 p4 p5 p6 p7 p8 p9 p10 p11 p12 p13 p14 hk5 hc5 Hm4 HB4 Hkk4 Hpl
    have Hm5 := hid hm5
    have Hl5 := hid hl5
    have Hkk5 := hid hkk5
    clear hm5 hl5 hkk5
    go_wp2_with fail
    refine calls_gen (fun W => Blk W w5.heap.size [.int .i64 3] ∧ MemAt W m c μ5 ∧ Keeps (· < ws) w W) ⟨?_, ?_, ?_⟩ ?_
    · exact (Blk.new w5 [.int .i64 3] _).alloc _
    · exact Hm5.out.keep (((Keeps.refl (· < w5.heap.size) w5).alloc (fun b hb => hb) _).alloc (fun b hb => by simp; omega) _) Hm5.out.obj.lt Hm5.out.cells.lt
    · exact (Hkk5.out.alloc (fun b hb => by omega) _).alloc (fun b hb => by simp; omega) _
    clear Hm5 Hkk5
    rintro W6 ⟨hBa, hm6, hkk6⟩
    generalize haB : w5.heap.size = aB at *
    clear haB
    refine (mem_cells hm6).mono ?_
    rintro e w7 ⟨rfl, hBw, hk7⟩
    have hla := hBa.lt
    have hBa7 := hBa.keep hk7 hla
    have hm7 := hm6.keep hk7 hm6.obj.lt hm6.cells.lt
    have hkk7 := hkk6.trans (hk7.mono fun b hb => by omega)
    have hlw := hBw.lt
    clear hBa hm6 hkk6 hk7
    generalize hwB : W6.heap.size = wB at *
    rw [Hl5.out]
    clear hwB
    have hGws : ∀ b, b < ws → b < w7.heap.size ∧ b ≠ m ∧ b ≠ c ∧ b ≠ wB := fun b hb => ⟨by omega, by omega, by omega, by omega⟩
    have hGa : aB < w7.heap.size ∧ aB ≠ m ∧ aB ≠ c ∧ aB ≠ wB := ⟨by omega, by omega, by omega, by omega⟩
    have hwm : wB ≠ m ∧ wB ≠ c := ⟨by omega, by omega⟩
    have HBw := hid hBw
    have HBa7 := hid hBa7
    have Hm7 := hid hm7
    have Hkk7 := hid hkk7
    have HGws := hid hGws
    have HGa := hid hGa
    have Hwm := hid hwm
    clear hBw hBa7 hm7 hkk7 hGws hGa hwm
    clear hcm hz4 hz1 hz5 hla hlb i1 hsz
    go_wp2_with fail
    go_loopw [58] (fun i wr => ∃ (k : Nat) (μ : MemS), i = .int .i64 k ∧ k ≤ tails.length ∧ MemAt wr m c μ ∧ μ.cells.length = 119 ∧ Blk wr wB (μ.cells.map (Value.int .u32)) ∧ Keeps (fun b => b < w7.heap.size ∧ b ≠ m ∧ b ≠ c ∧ b ≠ wB) w7 wr) (fun i _ => tails.length - (intOf i).toNat)
    case atStart => exact ⟨0, _, rfl, Nat.zero_le _, Hm7.out, Hl5.out, HBw.out, Keeps.refl _ _⟩
    case round =>
      obtain ⟨k, μ, rfl, hk, hm, hl, hBw, hK⟩ := hrel
      have hkw := Hkk7.out.trans (hK.mono HGws.out)
      by_cases hlt : k < tails.length
      · obtain ⟨b, off, cp, e1, hKb, x0⟩ := Hsc.out.get k tails[k] (List.getElem?_eq_getElem hlt)
        injection e1 with e1 _ e2
        subst e1 e2
        have y0 := (World.cell?_of_block (a := ⟨b, off + k, none⟩) (hkw.block b hKb)).trans x0
        have hux := HU.out tails[k] (List.getElem_mem hlt)
        generalize tails[k] = v at *
        obtain ⟨v0, v1⟩ := hux
        have hlt' : (k : Int) < (tails.length : Int) := by omega
        have Hm := hid hm
        have Hl := hid hl
        have HBw := hid hBw
        have HK := hid hK
        have Hkw := hid hkw
        clear hm hl hBw hK hkw
        clear x0
        by_cases h20 : 20 < k
        · have h20' : (20 : Int) < (k : Int) := by omega
          have hkf := Hkw.out.alloc (fun b hb => by have := Hkw.out.size; have := Hws.out; omega) (.cells #[.int .u32 v] 36)
          have Hkf := hid hkf
          clear hkf
          go_wp2_with fail
          exact hR'.out _ _ ⟨rfl, Hkf.out⟩
        · have h20' : (k : Int) ≤ 20 := by omega
          go_wp2_with fail
          refine calls_gen (fun W => Blk W wr.heap.size [.int .u32 v] ∧ MemAt W m c μ ∧ Blk W wB (μ.cells.map (Value.int .u32)) ∧ Keeps (fun b => b < w7.heap.size ∧ b ≠ m ∧ b ≠ c ∧ b ≠ wB) w7 W) ⟨?_, ?_, ?_, ?_⟩ ?_
          · exact Blk.new wr [.int .u32 v] _
          · exact Hm.out.keep ((Keeps.refl (· < wr.heap.size) wr).alloc (fun b hb => hb) _) Hm.out.obj.lt Hm.out.cells.lt
          · exact HBw.out.alloc _
          · exact HK.out.alloc (fun b hb => by have := HK.out.size; omega) _
          have hl0 := HBw.out.lt
          have hl0m := Hm.out.obj.lt
          have hl0c := Hm.out.cells.lt
          have hz0 := HK.out.size
          clear Hm HBw HK Hkw y0
          rintro W1 ⟨hBt, hm1, hBw1, hK1⟩
          generalize htB : wr.heap.size = tB at *
          have htw : tB ≠ wB ∧ tB ≠ m ∧ tB ≠ c ∧ tB ≠ aB := ⟨by omega, by omega, by omega, by have := HGa.out.1; omega⟩
          have hat : aB < tB := by have := HGa.out.1; omega
          refine (set_whole (K := fun b => b < W1.heap.size ∧ b ≠ m ∧ b ≠ c) hm1 (fun e => e.2.1 rfl) (fun e => e.2.2 rfl) (fun b hb => hb.1) aB tB 3 v ⟨v0, v1⟩ (HBa7.out.keep hK1 HGa.out) hBt
            ⟨by have := hBt.lt; omega, HGa.out.2.1, HGa.out.2.2.1⟩ ⟨hBt.lt, htw.2.1, htw.2.2.1⟩ (by rw [Hl.out]; decide)).mono ?_
          rintro e w2 ⟨rfl, ⟨μ2, hm2, hc2⟩, hk2⟩
          have hBt2 := hBt.keep hk2 ⟨hBt.lt, htw.2.1, htw.2.2.1⟩
          have hBw2 := hBw1.keep hk2 ⟨hBw1.lt, Hwm.out.1, Hwm.out.2⟩
          have hK2 := hK1.trans (hk2.mono fun b hb => ⟨by have := hK1.size; omega, hb.2.1, hb.2.2.1⟩)
          have hl2 : μ2.cells.length = 119 := by rw [hc2, List.length_set]; exact Hl.out
          have hz2 : tB < w2.heap.size := hBt2.lt
          have hg2 : μ2.cells[3]? = some v := by rw [hc2, List.getElem?_set_self (by rw [Hl.out]; decide)]
          clear hBt hm1 hBw1 hK1 hk2 htB
          have Hm2 := hid hm2
          have HBt2 := hid hBt2
          have HBw2 := hid hBw2
          have HK2 := hid hK2
          have Hl2 := hid hl2
          have Hg2 := hid hg2
          have Htw := hid htw
          have Hc2 := hid hc2
          clear hm2 hBt2 hBw2 hK2 hl2 hg2 htw hc2
          go_wp2_with fail
          refine calls_gen (fun W => Blk W w2.heap.size [.int .i64 (-1)] ∧ Blk W tB [.int .u32 v] ∧ MemAt W m c μ2 ∧ Blk W wB (μ.cells.map (Value.int .u32)) ∧ Keeps (fun b => b < w7.heap.size ∧ b ≠ m ∧ b ≠ c ∧ b ≠ wB) w7 W) ⟨?_, ?_, ?_, ?_, ?_⟩ ?_
          · exact Blk.new w2 [.int .i64 (-1)] _
          · exact HBt2.out.alloc _
          · exact Hm2.out.keep ((Keeps.refl (· < w2.heap.size) w2).alloc (fun b hb => hb) _) Hm2.out.obj.lt Hm2.out.cells.lt
          · exact HBw2.out.alloc _
          · exact HK2.out.alloc (fun b hb => by have := HK2.out.size; omega) _
          have hl3 := HBw2.out.lt
          have hl3m := Hm2.out.obj.lt
          have hl3c := Hm2.out.cells.lt
          clear Hm2 HBw2 HK2 HBt2
          rintro W3 ⟨hBg, hBt, hm3, hBw3, hK3⟩
          generalize hgB : w2.heap.size = gB at *
          clear hgB
          have hgt : gB ≠ wB ∧ gB ≠ m ∧ gB ≠ c ∧ gB ≠ aB ∧ gB ≠ tB := ⟨by omega, by omega, by omega, by omega, by omega⟩
          refine (get_whole (K := fun b => b < W3.heap.size ∧ b ≠ m ∧ b ≠ c) hm3 (fun e => e.2.1 rfl) (fun e => e.2.2 rfl) (fun b hb => hb.1) aB gB 3 v (-1) (HBa7.out.keep hK3 HGa.out) hBg
            ⟨by have := hBt.lt; omega, HGa.out.2.1, HGa.out.2.2.1⟩ ⟨hBg.lt, hgt.2.1, hgt.2.2.1⟩ (fun e => hgt.2.2.2.1 e.symm) Hg2.out).mono ?_
          rintro e w4 ⟨rfl, ⟨μ4, hm4, hc4⟩, hk4, hBg4⟩
          have hBt4 := hBt.keep hk4 ⟨⟨hBt.lt, Htw.out.2.1, Htw.out.2.2.1⟩, fun e => hgt.2.2.2.2 e.symm⟩
          have hBw4 := hBw3.keep hk4 ⟨⟨hBw3.lt, Hwm.out.1, Hwm.out.2⟩, fun e => hgt.1 e.symm⟩
          have hBa4 := (HBa7.out.keep hK3 HGa.out).keep hk4 ⟨⟨by have := hBt.lt; omega, HGa.out.2.1, HGa.out.2.2.1⟩, fun e => hgt.2.2.2.1 e.symm⟩
          have hK4 := hK3.trans (hk4.mono fun b hb => ⟨⟨by have := hK3.size; omega, hb.2.1, hb.2.2.1⟩, by have := hb.1; omega⟩)
          have hl4 : μ4.cells.length = 119 := by rw [hc4]; exact Hl2.out
          have hc4' : μ4.cells = μ.cells.set 3 v := hc4.trans Hc2.out
          have fw := hBw4.free 3
          have cw := hBw4.cell 3
          rw [List.getElem?_map, List.getElem?_eq_getElem (by rw [Hl.out]; decide), Option.map_some] at cw
          clear hBg hBt hm3 hBw3 hK3 hk4 hc4
          have g0 := (hBg4).cell 0
          simp only [List.getElem?_cons_zero, List.getElem?_cons_succ] at g0
          have t0 := (hBt4).cell 0
          simp only [List.getElem?_cons_zero, List.getElem?_cons_succ] at t0
          have a0 := (hBa4).cell 0
          simp only [List.getElem?_cons_zero, List.getElem?_cons_succ] at a0
          have Hm4 := hid hm4
          have HBw4 := hid hBw4
          have HK4 := hid hK4
          have Hl4 := hid hl4
          have Hc4' := hid hc4'
          clear hm4 hBw4 hK4 hl4 hc4'
          clear hBg4 hBt4 hBa4 hgt
          go_wp2_with fail
          refine calls_gen (fun W => MemAt W m c μ4 ∧ Blk W wB (μ4.cells.map (Value.int .u32)) ∧ Keeps (fun b => b < w7.heap.size ∧ b ≠ m ∧ b ≠ c ∧ b ≠ wB) w7 W) ⟨?_, ?_, ?_⟩ ?_
          · exact Hm4.out.keep (K := fun b => b ≠ wB) ((Keeps.refl _ _).setCell (by simp) _) (fun e => Hwm.out.1 e.symm) (fun e => Hwm.out.2 e.symm)
          · rw [Hc4'.out, List.map_set]; exact HBw4.out.set 3 _
          · exact HK4.out.setCell (fun e => e.2.2.2 rfl) _
          clear Hm4 HBw4 HK4 fw cw g0 t0 a0
          rintro W5 ⟨hm5, hBw5, hK5⟩
          refine (mem_cells hm5).mono ?_
          rintro e w6 ⟨rfl, hBn, hk6⟩
          have hm6 := hm5.keep hk6 hm5.obj.lt hm5.cells.lt
          have hBw6 := hBw5.keep hk6 hBw5.lt
          have hK6 := hK5.trans (hk6.mono fun b hb => by have := hK5.size; have := hb.1; omega)
          have hn1 := SlAt.of_blk (K := fun _ => True) hBn trivial (by rw [List.length_map, Hl4.out]; unfold maxLen; decide)
          have hw1 := SlAt.of_blk (K := fun _ => True) hBw6 trivial (by rw [List.length_map, Hl4.out]; unfold maxLen; decide)
          rw [List.length_map] at hn1 hw1
          have hsame := same_any hn1 hw1
          rw [Hl4.out, decide_eq_true (rfl : μ4.cells = μ4.cells)] at hsame
          rw [Hl4.out]
          clear hm5 hBw5 hK5 hk6 hBn hn1 hw1
          generalize W5.heap.size = nB at *
          have Hm6 := hid hm6
          have HBw6 := hid hBw6
          have HK6 := hid hK6
          have Hsame := hid hsame
          clear hm6 hBw6 hK6 hsame
          go_wp2_with fail
          refine Hsame.out.mono ?_
          rintro e w8 ⟨rfl, nd, rfl⟩
          go_wp2_with fail
          go_roundw
          case rel => exact ⟨k + 1, μ4, by go_num, by omega, Hm6.out.keep ((Keeps.refl (fun _ => True) _).drewN nd) trivial trivial, Hl4.out, HBw6.out.drewN nd, HK6.out.drewN nd⟩
          case measure => simp [intOf]; omega
      · have hkn : k = tails.length := by omega
        subst hkn
        have Hkw := hid hkw
        clear hkw
        go_wp2_with fail
        exact hR'.out _ _ ⟨rfl, Hkw.out⟩
end Go.Proofs.Ytjnaibmnpajfdaa
