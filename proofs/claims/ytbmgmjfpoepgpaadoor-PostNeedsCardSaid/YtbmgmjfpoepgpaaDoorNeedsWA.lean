/- PostNeeds, walked. Printed by gen/needsw.py. -/
import Derived.Test.YtbmgmjfpoepgpaaDoorNeedsP
import Derived.Deep.RegionHeld3
import Derived.Deep.DrawnRows
import Derived.Deep.CutRange
namespace Go.Proofs.YtbmgmjfpoepgpaaDoor
open Go.RowKit

set_option maxRecDepth 100000 in
set_option maxHeartbeats 8000000 in
theorem needs_walkA (c : ConfM) (ah n t : Int) (w : World) (hT : Tab w) (hah : 0 ≤ ah ∧ ah ≤ 255) (hn : -9223372036854775808 ≤ n ∧ n ≤ 9223372036854775807) (ht : -9223372036854775808 ≤ t ∧ t ≤ 9223372036854775807) (h50 : n ≤ 50) :
    Calls Tryd.prog 4 #[.agg c.list.toArray, .int .u8 ah, .int .i64 n, .int .i64 t] w fun e w' => e = .returned (.bool true) ∧ Keeps (· < w.heap.size) w w' := by
  obtain ⟨p, b, hplan, hb⟩ := plan_any c
  obtain ⟨docs, terms, s0, s1, s2, s3, book, room, kk, bb⟩ := c
  unfold ConfM.list at *
  have HPL := hid hplan
  have HPB := hid hb
  have HT := hid hT
  clear hplan hb hT
  have HH50 := hid h50
  clear h50
  refine calls_hide fun R' hR' => ?_
  unfold PlanM.val at HPL
  go_enter Tryd.func4, Tryd.ntmps4
  go_wp2_with fail
  refine (HPL.out _).mono ?_
  rintro e w1 ⟨rfl, hk1⟩
  have hk : Keeps (· < w.heap.size) w w1 := ((Keeps.refl _ _).alloc (fun b hb => hb) _).trans (hk1.mono fun b hb => by simp only [World.size_alloc]; omega)
  have h0 : 0 < w.heap.size := HT.out.2.2.2.2
  generalize hws : w.heap.size = ws at *
  have hz1 := hk.size
  have Hk := hid hk
  have Hws := hid hws
  have H0 := hid h0
  have Hz1 := hid hz1
  clear hk hws h0 hz1
  clear hk1 HPL
  cases b with
  | false =>
    go_wp2_with fail
    refine (fixed09 _ ?_).mono ?_
    · exact HT.out.keep (Hk.out.alloc (fun b hb => by have := Hk.out.size; have := Hws.out; omega) _) H0.out
    rintro e w2 ⟨rfl, hk2⟩
    have hkf : Keeps (· < ws) w w2 := (Hk.out.alloc (fun b hb => by have := Hk.out.size; have := Hws.out; omega) _).trans (hk2.mono fun b hb => by have := Hk.out.size; have := Hws.out; simp only [World.size_alloc]; omega)
    clear hk2
    have Hkf := hid hkf
    clear hkf
    go_wp2_with fail
    exact hR'.out _ _ ⟨rfl, Hkf.out⟩
  | true =>
    obtain ⟨hcok, hall, hpe⟩ := HPB.out rfl
    clear HPB
    by_cases hn3 : n > 3000
    · have g1 : decide (n > 3000) = true := decide_eq_true hn3
      clear hpe
      go_wp2_with fail
      refine (fixed09 _ ?_).mono ?_
      · exact HT.out.keep (Hk.out.alloc (fun b hb => by have := Hk.out.size; have := Hws.out; omega) _) H0.out
      rintro e w2 ⟨rfl, hk2⟩
      have hkf : Keeps (· < ws) w w2 := (Hk.out.alloc (fun b hb => by have := Hk.out.size; have := Hws.out; omega) _).trans (hk2.mono fun b hb => by have := Hk.out.size; have := Hws.out; simp only [World.size_alloc]; omega)
      clear hk2
      have Hkf := hid hkf
      clear hkf
      go_wp2_with fail
      exact hR'.out _ _ ⟨rfl, Hkf.out⟩
    · have g1 : decide (n > 3000) = false := decide_eq_false hn3
      have hcp := conf_pools _ hcok (by omega)
      rw [← hpe] at hcp
      have hpc : p.cells = ConfM.all ⟨docs, terms, s0, s1, s2, s3, book, room, kk, bb⟩ := by rw [hpe]; rfl
      have hs45 : 0 ≤ p.size.a4 ∧ p.size.a4 ≤ 65536 ∧ 0 ≤ p.size.a5 ∧ p.size.a5 ≤ 65536 := by
        rw [hpe]
        exact ⟨hcok.k0, hcok.k1, hcok.r0, hcok.r1⟩
      have HS45 := hid hs45
      clear hs45
      generalize ConfM.all ⟨docs, terms, s0, s1, s2, s3, book, room, kk, bb⟩ = call at *
      generalize ConfM.pools ⟨docs, terms, s0, s1, s2, s3, book, room, kk, bb⟩ = P at *
      obtain ⟨hP, hl, hpt, hc3⟩ := hcp
      have HX := hid (And.intro hP (And.intro hl (And.intro hpt (And.intro hc3 (And.intro hall (And.intro hpc (show n ≤ 3000 by omega)))))))
      clear hP hl hpt hc3 hall hpc hpe hcok hn3
      go_wp2_with fail
      refine wp_gen (fun W => Blk W w1.heap.size [.int .i64 p.base.a0, .int .i64 p.base.a1, .int .i64 p.base.a2, .int .i64 p.base.a3, .int .i64 p.base.a4, .int .i64 p.base.a5, .int .i64 p.size.a0, .int .i64 p.size.a1, .int .i64 p.size.a2, .int .i64 p.size.a3, .int .i64 p.size.a4, .int .i64 p.size.a5, .int .i64 p.cells, .int .i64 p.slots, .int .i64 p.live] ∧ Keeps (· < ws) w W) ⟨?_, ?_⟩ ?_
      · repeat (first | with_reducible assumption | with_reducible exact Blk.new _ _ _ | with_reducible refine Blk.drew ?_ | with_reducible refine Blk.drewN ?_ _ | with_reducible refine Blk.set_ne ?_ _ ?_ | (with_reducible refine Blk.new' _ _ _ ?_; focus (simp; done)) | with_reducible refine Blk.alloc ?_ _)
        all_goals (first | assumption | (simp; done) | (simp; omega))
      · exact Hk.out.alloc (fun b hb => by have := Hk.out.size; have := Hws.out; omega) _
      rintro W2 ⟨hBP, hK2⟩
      have hbp : ws ≤ w1.heap.size := by have := Hk.out.size; have := Hws.out; omega
      generalize w1.heap.size = bp at *
      clear Hk Hz1
      have hT2 : Tab W2 := HT.out.keep hK2 H0.out
      have h02 : 0 < W2.heap.size := hT2.2.2.2.2
      have hlt2 := hBP.lt
      have Hbp := hid hbp
      have HK2 := hid hK2
      have HT2 := hid hT2
      have H02 := hid h02
      have Hlt2 := hid hlt2
      clear hbp hK2 hT2 h02 hlt2
      have HBP := hid hBP
      have HNA := hid (show ∀ wx, Keeps (· < W2.heap.size) W2 wx → Calls Tryd.prog 14 #[p.val, .int .i64 t, .int .i64 n] wx fun e w' => e = .returned (p.need t n).val ∧ Keeps (· < W2.heap.size) W2 w' ∧ (w'.cell? ⟨bp, 0, none⟩ = some (.int .i64 p.base.a0) ∧ w'.cell? ⟨bp, 1, none⟩ = some (.int .i64 p.base.a1) ∧ w'.cell? ⟨bp, 2, none⟩ = some (.int .i64 p.base.a2) ∧ w'.cell? ⟨bp, 3, none⟩ = some (.int .i64 p.base.a3) ∧ w'.cell? ⟨bp, 4, none⟩ = some (.int .i64 p.base.a4) ∧ w'.cell? ⟨bp, 5, none⟩ = some (.int .i64 p.base.a5) ∧ w'.cell? ⟨bp, 6, none⟩ = some (.int .i64 p.size.a0) ∧ w'.cell? ⟨bp, 7, none⟩ = some (.int .i64 p.size.a1) ∧ w'.cell? ⟨bp, 8, none⟩ = some (.int .i64 p.size.a2) ∧ w'.cell? ⟨bp, 9, none⟩ = some (.int .i64 p.size.a3) ∧ w'.cell? ⟨bp, 10, none⟩ = some (.int .i64 p.size.a4) ∧ w'.cell? ⟨bp, 11, none⟩ = some (.int .i64 p.size.a5) ∧ w'.cell? ⟨bp, 12, none⟩ = some (.int .i64 p.cells) ∧ w'.cell? ⟨bp, 13, none⟩ = some (.int .i64 p.slots) ∧ w'.cell? ⟨bp, 14, none⟩ = some (.int .i64 p.live)) from fun wx hx => by
        refine (need_call p t n wx (HX.out.2.1.wf HX.out.1) (HT2.out.keep hx H02.out) ht ⟨hn.1, HX.out.2.2.2.2.2.2⟩).mono ?_
        rintro e w' ⟨rfl, h⟩
        have hk := hx.trans (h.mono fun b hb => by have := hx.size; omega)
        have hb := HBP.out.keep hk Hlt2.out
        exact ⟨rfl, hk, hb.cell 0, hb.cell 1, hb.cell 2, hb.cell 3, hb.cell 4, hb.cell 5, hb.cell 6, hb.cell 7, hb.cell 8, hb.cell 9, hb.cell 10, hb.cell 11, hb.cell 12, hb.cell 13, hb.cell 14⟩)
      have HNB := hid (show ∀ wx, Keeps (· < W2.heap.size) W2 wx → Calls Tryd.prog 15 #[p.val, .int .i64 t, .int .i64 n] wx fun e w' => e = .returned (p.need t n).val ∧ Keeps (· < W2.heap.size) W2 w' ∧ (w'.cell? ⟨bp, 0, none⟩ = some (.int .i64 p.base.a0) ∧ w'.cell? ⟨bp, 1, none⟩ = some (.int .i64 p.base.a1) ∧ w'.cell? ⟨bp, 2, none⟩ = some (.int .i64 p.base.a2) ∧ w'.cell? ⟨bp, 3, none⟩ = some (.int .i64 p.base.a3) ∧ w'.cell? ⟨bp, 4, none⟩ = some (.int .i64 p.base.a4) ∧ w'.cell? ⟨bp, 5, none⟩ = some (.int .i64 p.base.a5) ∧ w'.cell? ⟨bp, 6, none⟩ = some (.int .i64 p.size.a0) ∧ w'.cell? ⟨bp, 7, none⟩ = some (.int .i64 p.size.a1) ∧ w'.cell? ⟨bp, 8, none⟩ = some (.int .i64 p.size.a2) ∧ w'.cell? ⟨bp, 9, none⟩ = some (.int .i64 p.size.a3) ∧ w'.cell? ⟨bp, 10, none⟩ = some (.int .i64 p.size.a4) ∧ w'.cell? ⟨bp, 11, none⟩ = some (.int .i64 p.size.a5) ∧ w'.cell? ⟨bp, 12, none⟩ = some (.int .i64 p.cells) ∧ w'.cell? ⟨bp, 13, none⟩ = some (.int .i64 p.slots) ∧ w'.cell? ⟨bp, 14, none⟩ = some (.int .i64 p.live)) from fun wx hx => by
        refine (need_ref p P HX.out.1 HX.out.2.1 t n wx ht ⟨hn.1, HX.out.2.2.2.2.2.2⟩).mono ?_
        rintro e w' ⟨rfl, h⟩
        have hk := hx.trans (h.mono fun b hb => by have := hx.size; omega)
        have hb := HBP.out.keep hk Hlt2.out
        exact ⟨by rw [need_eq], hk, hb.cell 0, hb.cell 1, hb.cell 2, hb.cell 3, hb.cell 4, hb.cell 5, hb.cell 6, hb.cell 7, hb.cell 8, hb.cell 9, hb.cell 10, hb.cell 11, hb.cell 12, hb.cell 13, hb.cell 14⟩)
      generalize p.need t n = X at HNA HNB
      have heq := eq6 X
      unfold PlanM.val V6.val at HNA HNB
      unfold V6.val at heq
      have q0 := (hBP).cell 0
      have q1 := (hBP).cell 1
      have q2 := (hBP).cell 2
      have q3 := (hBP).cell 3
      have q4 := (hBP).cell 4
      have q5 := (hBP).cell 5
      have q6 := (hBP).cell 6
      have q7 := (hBP).cell 7
      have q8 := (hBP).cell 8
      have q9 := (hBP).cell 9
      have q10 := (hBP).cell 10
      have q11 := (hBP).cell 11
      have q12 := (hBP).cell 12
      have q13 := (hBP).cell 13
      have q14 := (hBP).cell 14
      simp only [List.getElem?_cons_zero, List.getElem?_cons_succ] at q0 q1 q2 q3 q4 q5 q6 q7 q8 q9 q10 q11 q12 q13 q14
      clear hBP
      go_cut [41] from 33 to 41 (fun v wx => v = .bool false ∧ Keeps (· < W2.heap.size) W2 wx)
      case first =>
        go_region_held3 (fun w' => w'.cell? ⟨bp, 0, none⟩ = some (.int .i64 p.base.a0) ∧ w'.cell? ⟨bp, 1, none⟩ = some (.int .i64 p.base.a1) ∧ w'.cell? ⟨bp, 2, none⟩ = some (.int .i64 p.base.a2) ∧ w'.cell? ⟨bp, 3, none⟩ = some (.int .i64 p.base.a3) ∧ w'.cell? ⟨bp, 4, none⟩ = some (.int .i64 p.base.a4) ∧ w'.cell? ⟨bp, 5, none⟩ = some (.int .i64 p.base.a5) ∧ w'.cell? ⟨bp, 6, none⟩ = some (.int .i64 p.size.a0) ∧ w'.cell? ⟨bp, 7, none⟩ = some (.int .i64 p.size.a1) ∧ w'.cell? ⟨bp, 8, none⟩ = some (.int .i64 p.size.a2) ∧ w'.cell? ⟨bp, 9, none⟩ = some (.int .i64 p.size.a3) ∧ w'.cell? ⟨bp, 10, none⟩ = some (.int .i64 p.size.a4) ∧ w'.cell? ⟨bp, 11, none⟩ = some (.int .i64 p.size.a5) ∧ w'.cell? ⟨bp, 12, none⟩ = some (.int .i64 p.cells) ∧ w'.cell? ⟨bp, 13, none⟩ = some (.int .i64 p.slots) ∧ w'.cell? ⟨bp, 14, none⟩ = some (.int .i64 p.live)) (go_keep)
          (first
            | (go_at_call 14; refine (HNA.out _ (by repeat (first | with_reducible exact HKW | with_reducible exact Keeps.refl _ _ | with_reducible refine Keeps.drew ?_ | with_reducible refine Keeps.drewN ?_ _))).mono ?_; rintro e wb ⟨rfl, HKW, ⟨q0, q1, q2, q3, q4, q5, q6, q7, q8, q9, q10, q11, q12, q13, q14⟩⟩)
            | (go_at_call 15; refine (HNB.out _ (by repeat (first | with_reducible exact HKW | with_reducible exact Keeps.refl _ _ | with_reducible refine Keeps.drew ?_ | with_reducible refine Keeps.drewN ?_ _))).mono ?_; rintro e wb ⟨rfl, HKW, ⟨q0, q1, q2, q3, q4, q5, q6, q7, q8, q9, q10, q11, q12, q13, q14⟩⟩))
        all_goals
          go_wp2_with fail
          go_meet
          case rel =>
            refine ⟨rfl, ?_⟩
            repeat (first | with_reducible exact HKW | with_reducible exact Keeps.refl _ _ | with_reducible refine Keeps.drew ?_ | with_reducible refine Keeps.drewN ?_ _)
      case rest =>
        obtain ⟨rfl, hkc⟩ := hcut
        have hBc : Blk wc bp [.int .i64 p.base.a0, .int .i64 p.base.a1, .int .i64 p.base.a2, .int .i64 p.base.a3, .int .i64 p.base.a4, .int .i64 p.base.a5, .int .i64 p.size.a0, .int .i64 p.size.a1, .int .i64 p.size.a2, .int .i64 p.size.a3, .int .i64 p.size.a4, .int .i64 p.size.a5, .int .i64 p.cells, .int .i64 p.slots, .int .i64 p.live] := HBP.out.keep hkc Hlt2.out
        have hKc : Keeps (· < ws) w wc := HK2.out.trans (hkc.mono fun b hb => by have := Hbp.out; have := Hlt2.out; omega)
        clear q0 q1 q2 q3 q4 q5 q6 q7 q8 q9 q10 q11 q12 q13 q14 hkc HNA HNB heq HBP HK2 HT2 H02 Hlt2
        have hpc := HX.out.2.2.2.2.2.1
        have HBC := hid hBc
        have HKC := hid hKc
        have q0 := (hBc).cell 0
        have q1 := (hBc).cell 1
        have q2 := (hBc).cell 2
        have q3 := (hBc).cell 3
        have q4 := (hBc).cell 4
        have q5 := (hBc).cell 5
        have q6 := (hBc).cell 6
        have q7 := (hBc).cell 7
        have q8 := (hBc).cell 8
        have q9 := (hBc).cell 9
        have q10 := (hBc).cell 10
        have q11 := (hBc).cell 11
        have q12 := (hBc).cell 12
        have q13 := (hBc).cell 13
        have q14 := (hBc).cell 14
        simp only [List.getElem?_cons_zero, List.getElem?_cons_succ] at q0 q1 q2 q3 q4 q5 q6 q7 q8 q9 q10 q11 q12 q13 q14
        clear hBc hKc
        have HPC := hid hpc
        clear hpc
        go_wp2_with fail
        refine (mem_newI wc p.cells (by have := HX.out.2.2.2.1; have := HPC.out; omega) (by have := HX.out.2.2.2.2.1; have := HPC.out; omega)).mono ?_
        rintro e w3 ⟨rfl, hm3, hk3, hz3⟩
        have hlb := HBC.out.lt
        have hB3 := HBC.out.keep hk3 hlb
        have hK3 := HKC.out.trans (hk3.mono fun b hb => by have := Hbp.out; omega)
        clear hk3 HBC HKC q0 q1 q2 q3 q4 q5 q6 q7 q8 q9 q10 q11 q12 q13 q14
        generalize hcc : wc.heap.size = cb at *
        generalize hmm : cb + 1 = m at *
        have Hcc := hid hcc
        have Hmm := hid hmm
        have Hm3 := hid hm3
        have HK3 := hid hK3
        have Hlb := hid hlb
        have Hz3 := hid hz3
        have HB3 := hid hB3
        clear hcc hmm hm3 hK3 hlb hz3 hB3
        obtain ⟨N1, gN, hN1⟩ : ∃ N1 : Nat, ah.tmod 90 = (N1 : Int) ∧ N1 < 90 := ⟨(ah.tmod 90).toNat, by rw [Int.tmod_eq_emod_of_nonneg hah.1]; omega, by rw [Int.tmod_eq_emod_of_nonneg hah.1]; omega⟩
        have gah : IntKind.i64.wrap ah = ah := IntWalk.i64_in _ (by omega)
        go_wp2_with fail
        refine wp_gen (fun W => Blk W w3.heap.size [.int .i64 0, .int .i64 0, .int .i64 0, .int .i64 0, .int .i64 0, .int .i64 0] ∧ Blk W bp [.int .i64 p.base.a0, .int .i64 p.base.a1, .int .i64 p.base.a2, .int .i64 p.base.a3, .int .i64 p.base.a4, .int .i64 p.base.a5, .int .i64 p.size.a0, .int .i64 p.size.a1, .int .i64 p.size.a2, .int .i64 p.size.a3, .int .i64 p.size.a4, .int .i64 p.size.a5, .int .i64 p.cells, .int .i64 p.slots, .int .i64 p.live] ∧ MemAt W m cb ⟨List.replicate p.cells.toNat 0, 0, 0⟩ ∧ Keeps (· < ws) w W) ⟨?_, ?_, ?_, ?_⟩ ?_
        · repeat (first | with_reducible assumption | with_reducible exact Blk.new _ _ _ | with_reducible refine Blk.drew ?_ | with_reducible refine Blk.drewN ?_ _ | with_reducible refine BlkN.set1 ?_ _ | with_reducible refine BlkN.set6 ?_ _ _ _ _ _ _ | with_reducible exact BlkN.of1 (by with_reducible assumption) | with_reducible exact BlkN.of6 (by with_reducible assumption) | with_reducible refine BlkN.drew ?_ | with_reducible refine BlkN.drewN ?_ _ | with_reducible refine BlkN.set_ne ?_ _ ?_ | with_reducible refine BlkN.alloc ?_ _ | with_reducible refine Blk.set_ne ?_ _ ?_ | (with_reducible refine Blk.new' _ _ _ ?_; focus (simp; done)) | with_reducible refine Blk.alloc ?_ _)
          all_goals (first | assumption | (simp; done) | (simp; omega))
        · exact HB3.out.alloc _
        · exact Hm3.out.keep ((Keeps.refl (· < w3.heap.size) w3).alloc (fun b hb => hb) _) Hm3.out.obj.lt Hm3.out.cells.lt
        · exact HK3.out.alloc (fun b hb => by have := HK3.out.size; have := Hws.out; omega) _
        rintro W4 ⟨hU, hB, hM, hK⟩
        have hnn : ws ≤ bp ∧ bp < cb ∧ cb + 1 = m ∧ w3.heap.size = cb + 2 ∧ 0 < ws := ⟨Hbp.out, Hlb.out, Hmm.out, Hz3.out, H0.out⟩
        generalize w3.heap.size = bu at *
        have HNN := hid hnn
        clear hnn Hbp Hlb Hmm Hz3 Hm3 HK3 HB3 Hcc
        have hinit := post_init P HX.out.1 p.cells.toNat (by have := HX.out.2.2.1; have := HX.out.2.2.2.2.2.1; omega)
        go_loopw [13, 15, 54] (fun vt ve vi wr => ∃ (i t1 : Nat) (u : V6) (q : Nat → Nat) (T : Tails) (μ : MemS), vi = .int .i64 (i : Int) ∧ i ≤ N1 ∧ vt = .int .i64 (t1 : Int) ∧ ve = .int .i64 0 ∧ Hid (t1 = tailOf P (T 0) ∧ MemAt wr m cb μ ∧ PostInv P μ.cells q T ∧ UsedIs u q ∧ u.a4 = 0 ∧ u.a5 = 0 ∧ μ.cells.length = p.cells.toNat ∧ Blk wr bp [.int .i64 p.base.a0, .int .i64 p.base.a1, .int .i64 p.base.a2, .int .i64 p.base.a3, .int .i64 p.base.a4, .int .i64 p.base.a5, .int .i64 p.size.a0, .int .i64 p.size.a1, .int .i64 p.size.a2, .int .i64 p.size.a3, .int .i64 p.size.a4, .int .i64 p.size.a5, .int .i64 p.cells, .int .i64 p.slots, .int .i64 p.live] ∧ Blk wr bu [.int .i64 u.a0, .int .i64 u.a1, .int .i64 u.a2, .int .i64 u.a3, .int .i64 u.a4, .int .i64 u.a5] ∧ Keeps (· < ws) w wr)) (fun _ _ i _ => N1 - (intOf i).toNat)
        case atStart => exact ⟨0, 0, zerosN, fun _ => 0, fun _ => none, _, rfl, by omega, rfl, rfl, hid ⟨rfl, hM, hinit, used_init, rfl, rfl, by simp, hB, hU, hK⟩⟩
        case round =>
          clear hU hB hM hK hinit
          obtain ⟨i, t1, u, q, T, μ, rfl, hi, rfl, rfl, HH⟩ := hrel
          obtain ⟨ht1, hM, hI, hUI, hu4, hu5, hlen, hB, hU, hK⟩ := HH.out
          clear HH
          have hTr : Tab wr := HT.out.keep hK H0.out
          by_cases hlt : i < N1
          · have gi1 : IntKind.u32.wrap (i : Int) = (i : Int) := IntWalk.u32_in _ (by omega)
            have hput := put_any (K := fun b => b ≠ m ∧ b ≠ cb ∧ b ≤ bu) hM (fun e => e.1 rfl) (fun e => e.2.1 rfl) (fun b hb => by have := hU.lt; omega) (by have := HNN.out; omega) hTr HX.out.1 HX.out.2.1 hUI hI (by have := HX.out.2.2.1; have := HX.out.2.2.2.2.2.1; omega) 0 (i : Int) ⟨by omega, by omega⟩
            rw [← ht1] at hput
            unfold PlanM.val V6.val at hput
            have hBf := hB
            have p0 := (hBf).cell 0
            have p1 := (hBf).cell 1
            have p2 := (hBf).cell 2
            have p3 := (hBf).cell 3
            have p4 := (hBf).cell 4
            have p5 := (hBf).cell 5
            have p6 := (hBf).cell 6
            have p7 := (hBf).cell 7
            have p8 := (hBf).cell 8
            have p9 := (hBf).cell 9
            have p10 := (hBf).cell 10
            have p11 := (hBf).cell 11
            have p12 := (hBf).cell 12
            have p13 := (hBf).cell 13
            have p14 := (hBf).cell 14
            simp only [List.getElem?_cons_zero, List.getElem?_cons_succ] at p0 p1 p2 p3 p4 p5 p6 p7 p8 p9 p10 p11 p12 p13 p14
            have u0 := (hU).cell 0
            have u1 := (hU).cell 1
            have u2 := (hU).cell 2
            have u3 := (hU).cell 3
            have u4 := (hU).cell 4
            have u5 := (hU).cell 5
            simp only [List.getElem?_cons_zero, List.getElem?_cons_succ] at u0 u1 u2 u3 u4 u5
            have HLT := hid hlt
            have glt : (i : Int) < (N1 : Int) := by omega
            have HU4 := hid (And.intro hu4 hu5)
            have HLEN := hid hlen
            have Hput := hid hput
            have HM := hid hM
            have HB := hid hB
            have HK := hid hK
            have HU := hid hU
            clear hput hM hB hK hU
            clear hBf hTr ht1 hI hUI hlt hu4 hu5 hlen hi
            go_wp2_with fail
            refine Hput.out.mono ?_
            rintro e w5 (⟨q', T', u', cs', rfl, ⟨μ5, hM5, hc5⟩, hk5, hD, hUI', hHow⟩ | ⟨rfl, ⟨μ5, hM5, hc5⟩, hk5, hF⟩)
            · subst hc5
              have hB5 := HB.out.keep hk5 (by have := HNN.out; omega)
              have hU5 := HU.out.keep hk5 (by have := HNN.out; omega)
              have hK5 := HK.out.trans (hk5.mono fun b hb => by have := HNN.out; omega)
              have h45 := hHow.a45
              have hlen5 : μ5.cells.length = p.cells.toNat := by rw [hD.len]; exact HLEN.out
              obtain ⟨t2, ht2⟩ : ∃ t2, t2 = tailOf P (T' 0) := ⟨_, rfl⟩
              rw [← ht2]
              have HD := hid (And.intro ht2 (And.intro hM5 (And.intro hD.inv (And.intro hUI' (And.intro h45 hlen5)))))
              clear p0 p1 p2 p3 p4 p5 p6 p7 p8 p9 p10 p11 p12 p13 p14 u0 u1 u2 u3 u4 u5 hk5 HM HB HU HK Hput hD hUI' hHow h45 hM5 ht2 hlen5
              have d0 := (hU5).cell 0
              have d1 := (hU5).cell 1
              have d2 := (hU5).cell 2
              have d3 := (hU5).cell 3
              have d4 := (hU5).cell 4
              have d5 := (hU5).cell 5
              simp only [List.getElem?_cons_zero, List.getElem?_cons_succ] at d0 d1 d2 d3 d4 d5
              have fu := hU5.free
              have HB5 := hid hB5
              have HK5 := hid hK5
              clear hB5 hK5
              have hS := hU5
              go_wp2_with fail
              go_roundw
              case rel =>
                refine ⟨i + 1, t2, u', q', T', μ5, by first | rfl | go_num, by have := HLT.out; omega, by first | rfl | go_num, by first | rfl | go_num, hid ⟨HD.out.1, ?_, HD.out.2.2.1, HD.out.2.2.2.1, by rw [HD.out.2.2.2.2.1.1]; exact HU4.out.1, by rw [HD.out.2.2.2.2.1.2]; exact HU4.out.2, HD.out.2.2.2.2.2, ?_, ?_, ?_⟩⟩
                · refine HD.out.2.1.keep (K := fun b => b ≠ bu) ?_ (by have := HNN.out; omega) (by have := HNN.out; omega)
                  repeat (first | with_reducible exact Keeps.refl _ _ | with_reducible refine Keeps.drew ?_ | with_reducible refine Keeps.setCell ?_ ?_ _)
                  all_goals simp
                · refine HB5.out.keep (K := fun b => b ≠ bu) ?_ (by have := HNN.out; omega)
                  repeat (first | with_reducible exact Keeps.refl _ _ | with_reducible refine Keeps.drew ?_ | with_reducible refine Keeps.setCell ?_ ?_ _)
                  all_goals simp
                · first | with_reducible exact Blk.set6 hS _ _ _ _ _ _ (by simp) | with_reducible exact (Blk.set6 hS _ _ _ _ _ _ (by simp)).drew
                · refine HK5.out.trans ((show Keeps (fun b => b ≠ bu) w5 _ from ?_).mono fun b hb => by have := HNN.out; omega)
                  repeat (first | with_reducible exact Keeps.refl _ _ | with_reducible refine Keeps.drew ?_ | with_reducible refine Keeps.setCell ?_ ?_ _)
                  all_goals simp
              case measure => have := HLT.out; simp [intOf]; omega
            · have hU5 := HU.out.keep hk5 (by have := HNN.out; omega)
              have hK5 := HK.out.trans (hk5.mono fun b hb => by have := HNN.out; omega)
              clear p0 p1 p2 p3 p4 p5 p6 p7 p8 p9 p10 p11 p12 p13 p14 u0 u1 u2 u3 u4 u5 hk5 HM HB HU HK Hput hM5 hc5 hF
              have d0 := (hU5).cell 0
              have d1 := (hU5).cell 1
              have d2 := (hU5).cell 2
              have d3 := (hU5).cell 3
              have d4 := (hU5).cell 4
              have d5 := (hU5).cell 5
              simp only [List.getElem?_cons_zero, List.getElem?_cons_succ] at d0 d1 d2 d3 d4 d5
              have fu := hU5.free
              have HK5 := hid hK5
              clear hK5
              clear hU5
              go_wp2_with fail
              refine calls_gen (fun W => Keeps (· < ws) w W) ?_ ?_
              · refine HK5.out.trans ((show Keeps (fun b => b ≠ bu) w5 _ from ?_).mono fun b hb => by have := HNN.out; omega)
                repeat (first | with_reducible exact Keeps.refl _ _ | with_reducible refine Keeps.drew ?_ | with_reducible refine Keeps.setCell ?_ ?_ _)
                all_goals simp
              intro W6 hK6
              refine (fixed09 _ (HT.out.keep hK6 H0.out)).mono ?_
              rintro e w7 ⟨rfl, hk7⟩
              have hkf : Keeps (· < ws) w w7 := hK6.trans (hk7.mono fun b hb => by have := hK6.size; have := Hws.out; omega)
              clear hk7 d0 d1 d2 d3 d4 d5 fu hK6
              have Hkf := hid hkf
              clear hkf
              go_wp2_with fail
              exact hR'.out _ _ ⟨rfl, Hkf.out⟩
          · obtain rfl : i = N1 := by omega
            have HE := hid (And.intro ht1 (And.intro hM (And.intro hI (And.intro hUI (And.intro hu4 (And.intro hu5 (And.intro hlen (And.intro hB (And.intro hU (And.intro hK hTr))))))))))
            clear ht1 hM hI hUI hu4 hu5 hlen hB hU hK hTr hi gah
            have h50 := HH50.out
            have hmin : min n 50 = n := Int.min_eq_left h50
            have hmn : (50 < n) = False := eq_false (by omega)
            obtain ⟨ht1, hM, hI, hUI, hu4, hu5, hlen, hB, hU, hK, hTr⟩ := HE.out
            have hnd := need_tail HX.out.1 HX.out.2.1 hI 0 n
            rw [← ht1] at hnd
            have htb := tail_bd HX.out.1 hI 0
            rw [← ht1] at htb
            obtain ⟨X, hX⟩ : ∃ X, X = refL (n : Int).toNat (leftOf (T 0)) (classOf (T 0)) zerosN := ⟨_, rfl⟩
            rw [← hX] at hnd
            have HXX := hid hX
            have hltu : bu < wr.heap.size := hU.lt
            have hltp : bp < wr.heap.size := hB.lt
            have HSS := hid (show ∀ wx, Keeps (· < wr.heap.size) wr wx → (wx.cell? ⟨bp, 0, none⟩ = some (.int .i64 p.base.a0) ∧ wx.cell? ⟨bp, 1, none⟩ = some (.int .i64 p.base.a1) ∧ wx.cell? ⟨bp, 2, none⟩ = some (.int .i64 p.base.a2) ∧ wx.cell? ⟨bp, 3, none⟩ = some (.int .i64 p.base.a3) ∧ wx.cell? ⟨bp, 4, none⟩ = some (.int .i64 p.base.a4) ∧ wx.cell? ⟨bp, 5, none⟩ = some (.int .i64 p.base.a5) ∧ wx.cell? ⟨bp, 6, none⟩ = some (.int .i64 p.size.a0) ∧ wx.cell? ⟨bp, 7, none⟩ = some (.int .i64 p.size.a1) ∧ wx.cell? ⟨bp, 8, none⟩ = some (.int .i64 p.size.a2) ∧ wx.cell? ⟨bp, 9, none⟩ = some (.int .i64 p.size.a3) ∧ wx.cell? ⟨bp, 10, none⟩ = some (.int .i64 p.size.a4) ∧ wx.cell? ⟨bp, 11, none⟩ = some (.int .i64 p.size.a5) ∧ wx.cell? ⟨bp, 12, none⟩ = some (.int .i64 p.cells) ∧ wx.cell? ⟨bp, 13, none⟩ = some (.int .i64 p.slots) ∧ wx.cell? ⟨bp, 14, none⟩ = some (.int .i64 p.live) ∧ wx.cell? ⟨bu, 0, none⟩ = some (.int .i64 u.a0) ∧ wx.cell? ⟨bu, 1, none⟩ = some (.int .i64 u.a1) ∧ wx.cell? ⟨bu, 2, none⟩ = some (.int .i64 u.a2) ∧ wx.cell? ⟨bu, 3, none⟩ = some (.int .i64 u.a3) ∧ wx.cell? ⟨bu, 4, none⟩ = some (.int .i64 u.a4) ∧ wx.cell? ⟨bu, 5, none⟩ = some (.int .i64 u.a5)) ∧ ¬ wx.heap.size = bp ∧ ¬ wx.heap.size = bu from fun wx k => by
              have hb := hB.keep k hltp
              have hu := hU.keep k hltu
              exact ⟨⟨hb.cell 0, hb.cell 1, hb.cell 2, hb.cell 3, hb.cell 4, hb.cell 5, hb.cell 6, hb.cell 7, hb.cell 8, hb.cell 9, hb.cell 10, hb.cell 11, hb.cell 12, hb.cell 13, hb.cell 14, hu.cell 0, hu.cell 1, hu.cell 2, hu.cell 3, hu.cell 4, hu.cell 5⟩, by have := k.size; omega, by have := k.size; omega⟩)
            have Hn := hid (show ∀ (wa w' : World) (b : Nat), Blk wa b [.int .i64 0, .int .i64 0, .int .i64 0, .int .i64 0, .int .i64 0, .int .i64 0] → Keeps (· < wa.heap.size) wa w' → w'.cell? ⟨b, 0, none⟩ = some (.int .i64 0) ∧ w'.cell? ⟨b, 1, none⟩ = some (.int .i64 0) ∧ w'.cell? ⟨b, 2, none⟩ = some (.int .i64 0) ∧ w'.cell? ⟨b, 3, none⟩ = some (.int .i64 0) ∧ w'.cell? ⟨b, 4, none⟩ = some (.int .i64 0) ∧ w'.cell? ⟨b, 5, none⟩ = some (.int .i64 0) ∧ w'.frozen? ⟨b, 0, none⟩ = false ∧ w'.frozen? ⟨b, 1, none⟩ = false ∧ w'.frozen? ⟨b, 2, none⟩ = false ∧ w'.frozen? ⟨b, 3, none⟩ = false ∧ w'.frozen? ⟨b, 4, none⟩ = false ∧ w'.frozen? ⟨b, 5, none⟩ = false from by
              intro wa w' b h k
              have h' := h.keep k h.lt
              exact ⟨h'.cell 0, h'.cell 1, h'.cell 2, h'.cell 3, h'.cell 4, h'.cell 5, h'.free 0, h'.free 1, h'.free 2, h'.free 3, h'.free 4, h'.free 5⟩)
            have HN0 := hid (show ∀ wx, Keeps (· < wr.heap.size) wr wx → Calls Tryd.prog 14 #[p.val, .int .i64 (t1 : Int), .int .i64 n] wx fun e w' => e = .returned X.val ∧ Hid (Keeps (· < wr.heap.size) wr w') ∧ Hid (Keeps (· < wx.heap.size) wx w') ∧ (w'.cell? ⟨bp, 0, none⟩ = some (.int .i64 p.base.a0) ∧ w'.cell? ⟨bp, 1, none⟩ = some (.int .i64 p.base.a1) ∧ w'.cell? ⟨bp, 2, none⟩ = some (.int .i64 p.base.a2) ∧ w'.cell? ⟨bp, 3, none⟩ = some (.int .i64 p.base.a3) ∧ w'.cell? ⟨bp, 4, none⟩ = some (.int .i64 p.base.a4) ∧ w'.cell? ⟨bp, 5, none⟩ = some (.int .i64 p.base.a5) ∧ w'.cell? ⟨bp, 6, none⟩ = some (.int .i64 p.size.a0) ∧ w'.cell? ⟨bp, 7, none⟩ = some (.int .i64 p.size.a1) ∧ w'.cell? ⟨bp, 8, none⟩ = some (.int .i64 p.size.a2) ∧ w'.cell? ⟨bp, 9, none⟩ = some (.int .i64 p.size.a3) ∧ w'.cell? ⟨bp, 10, none⟩ = some (.int .i64 p.size.a4) ∧ w'.cell? ⟨bp, 11, none⟩ = some (.int .i64 p.size.a5) ∧ w'.cell? ⟨bp, 12, none⟩ = some (.int .i64 p.cells) ∧ w'.cell? ⟨bp, 13, none⟩ = some (.int .i64 p.slots) ∧ w'.cell? ⟨bp, 14, none⟩ = some (.int .i64 p.live) ∧ w'.cell? ⟨bu, 0, none⟩ = some (.int .i64 u.a0) ∧ w'.cell? ⟨bu, 1, none⟩ = some (.int .i64 u.a1) ∧ w'.cell? ⟨bu, 2, none⟩ = some (.int .i64 u.a2) ∧ w'.cell? ⟨bu, 3, none⟩ = some (.int .i64 u.a3) ∧ w'.cell? ⟨bu, 4, none⟩ = some (.int .i64 u.a4) ∧ w'.cell? ⟨bu, 5, none⟩ = some (.int .i64 u.a5)) ∧ ¬ w'.heap.size = bp ∧ ¬ w'.heap.size = bu from fun wx hx => by
              refine (need_call p (t1 : Int) n wx (HX.out.2.1.wf HX.out.1) (hTr.keep hx (by omega)) ⟨by omega, by omega⟩ ⟨by omega, by omega⟩).mono ?_
              rintro e w' ⟨rfl, h⟩
              rw [hnd]
              have hk := hx.trans (h.mono fun b hb => by have := hx.size; omega)
              exact ⟨rfl, hk, h, HSS.out _ hk⟩)
            have HN1 := hid (show ∀ wx, Blk wx wr.heap.size [.int .i64 0, .int .i64 0, .int .i64 0, .int .i64 0, .int .i64 0, .int .i64 0] → Keeps (· < wr.heap.size) wr wx → Calls Tryd.prog 14 #[p.val, .int .i64 (t1 : Int), .int .i64 n] wx fun e w' => e = .returned X.val ∧ Hid (Keeps (· < wr.heap.size) wr w') ∧ Hid (Blk w' wr.heap.size [.int .i64 0, .int .i64 0, .int .i64 0, .int .i64 0, .int .i64 0, .int .i64 0]) ∧ (w'.cell? ⟨wr.heap.size, 0, none⟩ = some (.int .i64 0) ∧ w'.cell? ⟨wr.heap.size, 1, none⟩ = some (.int .i64 0) ∧ w'.cell? ⟨wr.heap.size, 2, none⟩ = some (.int .i64 0) ∧ w'.cell? ⟨wr.heap.size, 3, none⟩ = some (.int .i64 0) ∧ w'.cell? ⟨wr.heap.size, 4, none⟩ = some (.int .i64 0) ∧ w'.cell? ⟨wr.heap.size, 5, none⟩ = some (.int .i64 0) ∧ w'.frozen? ⟨wr.heap.size, 0, none⟩ = false ∧ w'.frozen? ⟨wr.heap.size, 1, none⟩ = false ∧ w'.frozen? ⟨wr.heap.size, 2, none⟩ = false ∧ w'.frozen? ⟨wr.heap.size, 3, none⟩ = false ∧ w'.frozen? ⟨wr.heap.size, 4, none⟩ = false ∧ w'.frozen? ⟨wr.heap.size, 5, none⟩ = false) ∧ (w'.cell? ⟨bp, 0, none⟩ = some (.int .i64 p.base.a0) ∧ w'.cell? ⟨bp, 1, none⟩ = some (.int .i64 p.base.a1) ∧ w'.cell? ⟨bp, 2, none⟩ = some (.int .i64 p.base.a2) ∧ w'.cell? ⟨bp, 3, none⟩ = some (.int .i64 p.base.a3) ∧ w'.cell? ⟨bp, 4, none⟩ = some (.int .i64 p.base.a4) ∧ w'.cell? ⟨bp, 5, none⟩ = some (.int .i64 p.base.a5) ∧ w'.cell? ⟨bp, 6, none⟩ = some (.int .i64 p.size.a0) ∧ w'.cell? ⟨bp, 7, none⟩ = some (.int .i64 p.size.a1) ∧ w'.cell? ⟨bp, 8, none⟩ = some (.int .i64 p.size.a2) ∧ w'.cell? ⟨bp, 9, none⟩ = some (.int .i64 p.size.a3) ∧ w'.cell? ⟨bp, 10, none⟩ = some (.int .i64 p.size.a4) ∧ w'.cell? ⟨bp, 11, none⟩ = some (.int .i64 p.size.a5) ∧ w'.cell? ⟨bp, 12, none⟩ = some (.int .i64 p.cells) ∧ w'.cell? ⟨bp, 13, none⟩ = some (.int .i64 p.slots) ∧ w'.cell? ⟨bp, 14, none⟩ = some (.int .i64 p.live) ∧ w'.cell? ⟨bu, 0, none⟩ = some (.int .i64 u.a0) ∧ w'.cell? ⟨bu, 1, none⟩ = some (.int .i64 u.a1) ∧ w'.cell? ⟨bu, 2, none⟩ = some (.int .i64 u.a2) ∧ w'.cell? ⟨bu, 3, none⟩ = some (.int .i64 u.a3) ∧ w'.cell? ⟨bu, 4, none⟩ = some (.int .i64 u.a4) ∧ w'.cell? ⟨bu, 5, none⟩ = some (.int .i64 u.a5)) ∧ ¬ w'.heap.size = bp ∧ ¬ w'.heap.size = bu ∧ ¬ w'.heap.size = wr.heap.size from fun wx hb hx => by
              refine (HN0.out wx hx).mono ?_
              rintro e w' ⟨rfl, h1, h2, h3, h4, h5⟩
              exact ⟨rfl, h1, hb.keep h2.out hb.lt, Hn.out _ _ _ hb h2.out, h3, h4, h5, by have := h2.out.size; have := hb.lt; omega⟩)
            have HN2 := hid (show ∀ wx, Blk wx wr.heap.size [.int .i64 0, .int .i64 0, .int .i64 0, .int .i64 0, .int .i64 0, .int .i64 0] → Blk wx (wr.heap.size + 1) [.int .i64 0, .int .i64 0, .int .i64 0, .int .i64 0, .int .i64 0, .int .i64 0] → Keeps (· < wr.heap.size) wr wx → Calls Tryd.prog 14 #[p.val, .int .i64 (t1 : Int), .int .i64 n] wx fun e w' => e = .returned X.val ∧ Hid (Keeps (· < wr.heap.size) wr w') ∧ Hid (Blk w' wr.heap.size [.int .i64 0, .int .i64 0, .int .i64 0, .int .i64 0, .int .i64 0, .int .i64 0]) ∧ Hid (Blk w' (wr.heap.size + 1) [.int .i64 0, .int .i64 0, .int .i64 0, .int .i64 0, .int .i64 0, .int .i64 0]) ∧ (w'.cell? ⟨wr.heap.size, 0, none⟩ = some (.int .i64 0) ∧ w'.cell? ⟨wr.heap.size, 1, none⟩ = some (.int .i64 0) ∧ w'.cell? ⟨wr.heap.size, 2, none⟩ = some (.int .i64 0) ∧ w'.cell? ⟨wr.heap.size, 3, none⟩ = some (.int .i64 0) ∧ w'.cell? ⟨wr.heap.size, 4, none⟩ = some (.int .i64 0) ∧ w'.cell? ⟨wr.heap.size, 5, none⟩ = some (.int .i64 0) ∧ w'.frozen? ⟨wr.heap.size, 0, none⟩ = false ∧ w'.frozen? ⟨wr.heap.size, 1, none⟩ = false ∧ w'.frozen? ⟨wr.heap.size, 2, none⟩ = false ∧ w'.frozen? ⟨wr.heap.size, 3, none⟩ = false ∧ w'.frozen? ⟨wr.heap.size, 4, none⟩ = false ∧ w'.frozen? ⟨wr.heap.size, 5, none⟩ = false) ∧ (w'.cell? ⟨(wr.heap.size + 1), 0, none⟩ = some (.int .i64 0) ∧ w'.cell? ⟨(wr.heap.size + 1), 1, none⟩ = some (.int .i64 0) ∧ w'.cell? ⟨(wr.heap.size + 1), 2, none⟩ = some (.int .i64 0) ∧ w'.cell? ⟨(wr.heap.size + 1), 3, none⟩ = some (.int .i64 0) ∧ w'.cell? ⟨(wr.heap.size + 1), 4, none⟩ = some (.int .i64 0) ∧ w'.cell? ⟨(wr.heap.size + 1), 5, none⟩ = some (.int .i64 0) ∧ w'.frozen? ⟨(wr.heap.size + 1), 0, none⟩ = false ∧ w'.frozen? ⟨(wr.heap.size + 1), 1, none⟩ = false ∧ w'.frozen? ⟨(wr.heap.size + 1), 2, none⟩ = false ∧ w'.frozen? ⟨(wr.heap.size + 1), 3, none⟩ = false ∧ w'.frozen? ⟨(wr.heap.size + 1), 4, none⟩ = false ∧ w'.frozen? ⟨(wr.heap.size + 1), 5, none⟩ = false) ∧ (w'.cell? ⟨bp, 0, none⟩ = some (.int .i64 p.base.a0) ∧ w'.cell? ⟨bp, 1, none⟩ = some (.int .i64 p.base.a1) ∧ w'.cell? ⟨bp, 2, none⟩ = some (.int .i64 p.base.a2) ∧ w'.cell? ⟨bp, 3, none⟩ = some (.int .i64 p.base.a3) ∧ w'.cell? ⟨bp, 4, none⟩ = some (.int .i64 p.base.a4) ∧ w'.cell? ⟨bp, 5, none⟩ = some (.int .i64 p.base.a5) ∧ w'.cell? ⟨bp, 6, none⟩ = some (.int .i64 p.size.a0) ∧ w'.cell? ⟨bp, 7, none⟩ = some (.int .i64 p.size.a1) ∧ w'.cell? ⟨bp, 8, none⟩ = some (.int .i64 p.size.a2) ∧ w'.cell? ⟨bp, 9, none⟩ = some (.int .i64 p.size.a3) ∧ w'.cell? ⟨bp, 10, none⟩ = some (.int .i64 p.size.a4) ∧ w'.cell? ⟨bp, 11, none⟩ = some (.int .i64 p.size.a5) ∧ w'.cell? ⟨bp, 12, none⟩ = some (.int .i64 p.cells) ∧ w'.cell? ⟨bp, 13, none⟩ = some (.int .i64 p.slots) ∧ w'.cell? ⟨bp, 14, none⟩ = some (.int .i64 p.live) ∧ w'.cell? ⟨bu, 0, none⟩ = some (.int .i64 u.a0) ∧ w'.cell? ⟨bu, 1, none⟩ = some (.int .i64 u.a1) ∧ w'.cell? ⟨bu, 2, none⟩ = some (.int .i64 u.a2) ∧ w'.cell? ⟨bu, 3, none⟩ = some (.int .i64 u.a3) ∧ w'.cell? ⟨bu, 4, none⟩ = some (.int .i64 u.a4) ∧ w'.cell? ⟨bu, 5, none⟩ = some (.int .i64 u.a5)) ∧ ¬ w'.heap.size = bp ∧ ¬ w'.heap.size = bu from fun wx hb hb2 hx => by
              refine (HN0.out wx hx).mono ?_
              rintro e w' ⟨rfl, h1, h2, h3, h4, h5⟩
              exact ⟨rfl, h1, hb.keep h2.out hb.lt, hb2.keep h2.out hb2.lt, Hn.out _ _ _ hb h2.out, Hn.out _ _ _ hb2 h2.out, h3, h4, h5⟩)
            unfold PlanM.val V6.val at HN0 HN1 HN2
            have hne0 : ¬ wr.heap.size = bp := by omega
            have hne1 : ¬ wr.heap.size = bu := by omega
            have hne2 : ¬ wr.heap.size + 1 = bp := by omega
            have hne3 : ¬ wr.heap.size + 1 = bu := by omega
            have hne4 : ¬ bp = wr.heap.size := by omega
            have hne5 : ¬ bu = wr.heap.size := by omega
            have hne6 : ¬ bp = wr.heap.size + 1 := by omega
            have hne7 : ¬ bu = wr.heap.size + 1 := by omega
            have hfa : ∀ (w : World) (o : Obj) (b i : Nat), ¬ w.heap.size = b → (w.alloc o).frozen? ⟨b, i, none⟩ = w.frozen? ⟨b, i, none⟩ := fun w o b i h => World.frozen?_alloc_old w o ⟨b, i, none⟩ (fun e => h e.symm)
            have hca : ∀ (w : World) (o : Obj) (b i : Nat), ¬ w.heap.size = b → (w.alloc o).cell? ⟨b, i, none⟩ = w.cell? ⟨b, i, none⟩ := fun w o b i h => World.cell?_alloc_old w o ⟨b, i, none⟩ (fun e => h e.symm)
            have p0 := (hB).cell 0
            have p1 := (hB).cell 1
            have p2 := (hB).cell 2
            have p3 := (hB).cell 3
            have p4 := (hB).cell 4
            have p5 := (hB).cell 5
            have p6 := (hB).cell 6
            have p7 := (hB).cell 7
            have p8 := (hB).cell 8
            have p9 := (hB).cell 9
            have p10 := (hB).cell 10
            have p11 := (hB).cell 11
            have p12 := (hB).cell 12
            have p13 := (hB).cell 13
            have p14 := (hB).cell 14
            simp only [List.getElem?_cons_zero, List.getElem?_cons_succ] at p0 p1 p2 p3 p4 p5 p6 p7 p8 p9 p10 p11 p12 p13 p14
            have u0 := (hU).cell 0
            have u1 := (hU).cell 1
            have u2 := (hU).cell 2
            have u3 := (hU).cell 3
            have u4 := (hU).cell 4
            have u5 := (hU).cell 5
            simp only [List.getElem?_cons_zero, List.getElem?_cons_succ] at u0 u1 u2 u3 u4 u5
            clear ht1 hM hI hUI hu4 hu5 hlen hB hU hK hTr hnd hX hltu hltp htb
            go_wp2_with fail
            go_cut [17, 18] from 72 to 77 (fun va vb wx => ∃ b17 b18, va = .pointer (some ⟨b17, 0, none⟩) ∧ vb = .pointer (some ⟨b18, 0, none⟩) ∧ wr.heap.size ≤ b17 ∧ wr.heap.size ≤ b18 ∧ b17 ≠ b18 ∧ Blk wx b17 [.int .i64 X.a0, .int .i64 X.a1, .int .i64 X.a2, .int .i64 X.a3, .int .i64 X.a4, .int .i64 X.a5] ∧ Blk wx b18 [.int .i64 u.a0, .int .i64 u.a1, .int .i64 u.a2, .int .i64 u.a3, .int .i64 u.a4, .int .i64 u.a5] ∧ Keeps (· < wr.heap.size) wr wx)
            case first =>
              go_region_held3 (fun w' => w'.cell? ⟨bp, 0, none⟩ = some (.int .i64 p.base.a0) ∧ w'.cell? ⟨bp, 1, none⟩ = some (.int .i64 p.base.a1) ∧ w'.cell? ⟨bp, 2, none⟩ = some (.int .i64 p.base.a2) ∧ w'.cell? ⟨bp, 3, none⟩ = some (.int .i64 p.base.a3) ∧ w'.cell? ⟨bp, 4, none⟩ = some (.int .i64 p.base.a4) ∧ w'.cell? ⟨bp, 5, none⟩ = some (.int .i64 p.base.a5) ∧ w'.cell? ⟨bp, 6, none⟩ = some (.int .i64 p.size.a0) ∧ w'.cell? ⟨bp, 7, none⟩ = some (.int .i64 p.size.a1) ∧ w'.cell? ⟨bp, 8, none⟩ = some (.int .i64 p.size.a2) ∧ w'.cell? ⟨bp, 9, none⟩ = some (.int .i64 p.size.a3) ∧ w'.cell? ⟨bp, 10, none⟩ = some (.int .i64 p.size.a4) ∧ w'.cell? ⟨bp, 11, none⟩ = some (.int .i64 p.size.a5) ∧ w'.cell? ⟨bp, 12, none⟩ = some (.int .i64 p.cells) ∧ w'.cell? ⟨bp, 13, none⟩ = some (.int .i64 p.slots) ∧ w'.cell? ⟨bp, 14, none⟩ = some (.int .i64 p.live) ∧ w'.cell? ⟨bu, 0, none⟩ = some (.int .i64 u.a0) ∧ w'.cell? ⟨bu, 1, none⟩ = some (.int .i64 u.a1) ∧ w'.cell? ⟨bu, 2, none⟩ = some (.int .i64 u.a2) ∧ w'.cell? ⟨bu, 3, none⟩ = some (.int .i64 u.a3) ∧ w'.cell? ⟨bu, 4, none⟩ = some (.int .i64 u.a4) ∧ w'.cell? ⟨bu, 5, none⟩ = some (.int .i64 u.a5)) (go_keep)
                (first
                  | (go_at_call 14; refine (HN2.out _ ?_ ?_ ?_).mono ?_; (focus ((repeat (first | with_reducible exact Blk.new _ _ _ | with_reducible refine Blk.drew ?_ | with_reducible refine Blk.drewN ?_ _ | (with_reducible refine Blk.new' _ _ _ ?_; focus (simp; done)) | with_reducible refine Blk.alloc ?_ _)); done)); (focus ((repeat (first | with_reducible exact Blk.new _ _ _ | with_reducible refine Blk.drew ?_ | with_reducible refine Blk.drewN ?_ _ | (with_reducible refine Blk.new' _ _ _ ?_; focus (simp; done)) | with_reducible refine Blk.alloc ?_ _)); done)); (focus ((repeat (first | with_reducible exact HKW.out | with_reducible exact Keeps.refl _ _ | with_reducible refine Keeps.drew ?_ | with_reducible refine Keeps.drewN ?_ _ | with_reducible refine Keeps.setCell ?_ ?_ _ | with_reducible refine Keeps.alloc ?_ ?_ _)); all_goals (first | (intro b hb; first | exact hb | (simp only [World.size_alloc, World.size_drew]; omega)) | simp))); rintro e wb ⟨rfl, HKW, HBW, HBV, ⟨zc0, zc1, zc2, zc3, zc4, zc5, zf0, zf1, zf2, zf3, zf4, zf5⟩, ⟨yc0, yc1, yc2, yc3, yc4, yc5, yf0, yf1, yf2, yf3, yf4, yf5⟩, ⟨q0, q1, q2, q3, q4, q5, q6, q7, q8, q9, q10, q11, q12, q13, q14, q15, q16, q17, q18, q19, q20⟩, hqa, hqb⟩)
                  | (go_at_call 14; refine (HN1.out _ ?_ ?_).mono ?_; (focus ((repeat (first | with_reducible exact Blk.new _ _ _ | with_reducible refine Blk.drew ?_ | with_reducible refine Blk.drewN ?_ _ | (with_reducible refine Blk.new' _ _ _ ?_; focus (simp; done)) | with_reducible refine Blk.alloc ?_ _)); done)); (focus ((repeat (first | with_reducible exact HKW.out | with_reducible exact Keeps.refl _ _ | with_reducible refine Keeps.drew ?_ | with_reducible refine Keeps.drewN ?_ _ | with_reducible refine Keeps.setCell ?_ ?_ _ | with_reducible refine Keeps.alloc ?_ ?_ _)); all_goals (first | (intro b hb; first | exact hb | (simp only [World.size_alloc, World.size_drew]; omega)) | simp))); rintro e wb ⟨rfl, HKW, HBW, ⟨zc0, zc1, zc2, zc3, zc4, zc5, zf0, zf1, zf2, zf3, zf4, zf5⟩, ⟨q0, q1, q2, q3, q4, q5, q6, q7, q8, q9, q10, q11, q12, q13, q14, q15, q16, q17, q18, q19, q20⟩, hqa, hqb, hqc⟩)
                  | (go_at_call 14; refine (HN0.out _ ?_).mono ?_; (focus ((repeat (first | with_reducible exact HKW.out | with_reducible exact Keeps.refl _ _ | with_reducible refine Keeps.drew ?_ | with_reducible refine Keeps.drewN ?_ _ | with_reducible refine Keeps.setCell ?_ ?_ _ | with_reducible refine Keeps.alloc ?_ ?_ _)); all_goals (first | (intro b hb; first | exact hb | (simp only [World.size_alloc, World.size_drew]; omega)) | simp))); rintro e wb ⟨rfl, HKW, -, ⟨q0, q1, q2, q3, q4, q5, q6, q7, q8, q9, q10, q11, q12, q13, q14, q15, q16, q17, q18, q19, q20⟩, hqa, hqb⟩))
              all_goals
                go_wp2_with fail
                go_meet
                case rel =>
                  refine ⟨_, _, rfl, rfl, ?_, ?_, ?_, ?_, ?_, ?_⟩
                  · first | exact Nat.le_refl _ | omega | (have := HKW.out.size; omega)
                  · first | exact Nat.le_refl _ | omega | (have := HKW.out.size; omega)
                  · first | omega | (have := HKW.out.size; omega)
                  · repeat (first | with_reducible exact HBW.out | with_reducible exact HBV.out | with_reducible exact Blk.new _ _ _ | with_reducible refine BlkN.set6 ?_ _ _ _ _ _ _ | with_reducible exact BlkN.of6 HBW.out | with_reducible exact BlkN.of6 HBV.out | with_reducible exact BlkN.of6 (Blk.new _ _ _) | with_reducible refine Blk.drew ?_ | with_reducible refine BlkN.drew ?_ | with_reducible refine Blk.set_ne ?_ _ ?_ | with_reducible refine BlkN.set_ne ?_ _ ?_ | (with_reducible refine Blk.new' _ _ _ ?_; focus (simp; done)) | with_reducible refine Blk.alloc ?_ _ | with_reducible refine BlkN.alloc ?_ _)
                    all_goals (first | (simp; done) | (simp; omega) | (have := HKW.out.size; simp; omega) | (have := HKW.out.size; omega))
                  · repeat (first | with_reducible exact HBW.out | with_reducible exact HBV.out | with_reducible exact Blk.new _ _ _ | with_reducible refine BlkN.set6 ?_ _ _ _ _ _ _ | with_reducible exact BlkN.of6 HBW.out | with_reducible exact BlkN.of6 HBV.out | with_reducible exact BlkN.of6 (Blk.new _ _ _) | with_reducible refine Blk.drew ?_ | with_reducible refine BlkN.drew ?_ | with_reducible refine Blk.set_ne ?_ _ ?_ | with_reducible refine BlkN.set_ne ?_ _ ?_ | (with_reducible refine Blk.new' _ _ _ ?_; focus (simp; done)) | with_reducible refine Blk.alloc ?_ _ | with_reducible refine BlkN.alloc ?_ _)
                    all_goals (first | (simp; done) | (simp; omega) | (have := HKW.out.size; simp; omega) | (have := HKW.out.size; omega))
                  · repeat (first | with_reducible exact HKW.out | with_reducible refine Keeps.drew ?_ | with_reducible refine Keeps.setCell ?_ ?_ _ | with_reducible refine Keeps.alloc ?_ ?_ _)
                    all_goals first | (intro b hb; have := HKW.out.size; simp only [World.size_alloc]; omega) | (intro b hb; have := HKW.out.size; omega) | (simp; done) | (have := HKW.out.size; simp; omega)
            case rest =>
              obtain ⟨b17, b18, rfl, rfl, h17, h18, hne, hX17, hU18, hkc⟩ := hcut
              clear HSS Hn HN0 HN1 HN2 hne0 hne1 hne2 hne3 hne4 hne5 hne6 hne7 hfa hca p0 p1 p2 p3 p4 p5 p6 p7 p8 p9 p10 p11 p12 p13 p14 u0 u1 u2 u3 u4 u5
              obtain ⟨ht1, hM, hI, hUI, hu4, hu5, hlen, hB, hU, hK, hTr⟩ := HE.out
              have hBc : Blk wc bp [.int .i64 p.base.a0, .int .i64 p.base.a1, .int .i64 p.base.a2, .int .i64 p.base.a3, .int .i64 p.base.a4, .int .i64 p.base.a5, .int .i64 p.size.a0, .int .i64 p.size.a1, .int .i64 p.size.a2, .int .i64 p.size.a3, .int .i64 p.size.a4, .int .i64 p.size.a5, .int .i64 p.cells, .int .i64 p.slots, .int .i64 p.live] := hB.keep hkc hB.lt
              have hUc : Blk wc bu [.int .i64 u.a0, .int .i64 u.a1, .int .i64 u.a2, .int .i64 u.a3, .int .i64 u.a4, .int .i64 u.a5] := hU.keep hkc hU.lt
              have hMc : MemAt wc m cb μ := hM.keep hkc hM.obj.lt hM.cells.lt
              have hKc : Keeps (· < ws) w wc := hK.trans (hkc.mono fun b hb => by have := hK.size; have := Hws.out; omega)
              have hnn2 : bu < b17 ∧ bu < b18 ∧ m < b17 ∧ m < b18 ∧ b17 ≠ b18 := by have := hU.lt; have := HNN.out; omega
              have hfits := used_fits HX.out.1 HX.out.2.1 hI hUI hu4 hu5 HS45.out (n : Int).toNat (leftOf (T 0)) (classOf (T 0))
              rw [← HXX.out] at hfits
              have hadd := refL_add (n : Int).toNat (leftOf (T 0)) (classOf (T 0)) u zerosN
              rw [V6.add_zero, ← HXX.out] at hadd
              have hfc := fits_ref p u X wc hfits
              unfold PlanM.val V6.val at hfc
              have HFI := hid hfits
              have HAD := hid hadd
              have HN2 := hid hnn2
              have HD := hid (And.intro ht1 (And.intro hMc (And.intro hI (And.intro hUI (And.intro hu4 (And.intro hu5 (And.intro hlen (And.intro hBc (And.intro hUc (And.intro hKc (And.intro hX17 hU18)))))))))))
              have HFC := hid hfc
              clear ht1 hM hI hUI hu4 hu5 hlen hB hU hK hTr hMc hKc hnn2 hfits hadd hfc hkc h17 h18 hne hU18 HE HXX
              have p0 := (hBc).cell 0
              have p1 := (hBc).cell 1
              have p2 := (hBc).cell 2
              have p3 := (hBc).cell 3
              have p4 := (hBc).cell 4
              have p5 := (hBc).cell 5
              have p6 := (hBc).cell 6
              have p7 := (hBc).cell 7
              have p8 := (hBc).cell 8
              have p9 := (hBc).cell 9
              have p10 := (hBc).cell 10
              have p11 := (hBc).cell 11
              have p12 := (hBc).cell 12
              have p13 := (hBc).cell 13
              have p14 := (hBc).cell 14
              simp only [List.getElem?_cons_zero, List.getElem?_cons_succ] at p0 p1 p2 p3 p4 p5 p6 p7 p8 p9 p10 p11 p12 p13 p14
              have u0 := (hUc).cell 0
              have u1 := (hUc).cell 1
              have u2 := (hUc).cell 2
              have u3 := (hUc).cell 3
              have u4 := (hUc).cell 4
              have u5 := (hUc).cell 5
              simp only [List.getElem?_cons_zero, List.getElem?_cons_succ] at u0 u1 u2 u3 u4 u5
              have x0 := (hX17).cell 0
              have x1 := (hX17).cell 1
              have x2 := (hX17).cell 2
              have x3 := (hX17).cell 3
              have x4 := (hX17).cell 4
              have x5 := (hX17).cell 5
              simp only [List.getElem?_cons_zero, List.getElem?_cons_succ] at x0 x1 x2 x3 x4 x5
              clear hBc hUc hX17
              go_wp2_with fail
              refine HFC.out.mono ?_
              clear HFC
              rintro e w6 ⟨⟨rfl, hF⟩ | rfl, hk6⟩
              · obtain ⟨ht1, hMc, hI, hUI, hu4, hu5, hlen, hBc, hUc, hKc, hX17, hU18⟩ := HD.out
                have HS := hid (show t1 = tailOf P (T 0) ∧ MemAt w6 m cb μ ∧ PostInv P μ.cells q T ∧ UsedIs u q ∧ u.a4 = 0 ∧ u.a5 = 0 ∧ μ.cells.length = p.cells.toNat ∧ Blk w6 bp [.int .i64 p.base.a0, .int .i64 p.base.a1, .int .i64 p.base.a2, .int .i64 p.base.a3, .int .i64 p.base.a4, .int .i64 p.base.a5, .int .i64 p.size.a0, .int .i64 p.size.a1, .int .i64 p.size.a2, .int .i64 p.size.a3, .int .i64 p.size.a4, .int .i64 p.size.a5, .int .i64 p.cells, .int .i64 p.slots, .int .i64 p.live] ∧ Blk w6 bu [.int .i64 u.a0, .int .i64 u.a1, .int .i64 u.a2, .int .i64 u.a3, .int .i64 u.a4, .int .i64 u.a5] ∧ Blk w6 b17 [.int .i64 X.a0, .int .i64 X.a1, .int .i64 X.a2, .int .i64 X.a3, .int .i64 X.a4, .int .i64 X.a5] ∧ Blk w6 b18 [.int .i64 u.a0, .int .i64 u.a1, .int .i64 u.a2, .int .i64 u.a3, .int .i64 u.a4, .int .i64 u.a5] ∧ Keeps (· < ws) w w6 ∧ refL ((n : Int).toNat - 0) (leftOf (T 0)) (classOf (T 0)) u = u.add X from
                  ⟨ht1, hMc.keep hk6 hMc.obj.lt hMc.cells.lt, hI, hUI, hu4, hu5, hlen, hBc.keep hk6 hBc.lt, hUc.keep hk6 hUc.lt, hX17.keep hk6 hX17.lt, hU18.keep hk6 hU18.lt, hKc.trans (hk6.mono fun b hb => by have := hKc.size; have := Hws.out; omega), HAD.out⟩)
                have HF := hid hF
                clear p0 p1 p2 p3 p4 p5 p6 p7 p8 p9 p10 p11 p12 p13 p14 u0 u1 u2 u3 u4 u5 x0 x1 x2 x3 x4 x5 ht1 hMc hI hUI hu4 hu5 hlen hBc hUc hKc hX17 hU18 hF hk6 HD HAD
                go_wp2_with fail
                clear hmin
                go_loopw [13, 15, 86] (fun vt ve vi wr => ∃ (i t2 : Nat) (u' : V6) (q : Nat → Nat) (T : Tails) (μ : MemS), vi = .int .i64 (i : Int) ∧ i ≤ (n : Int).toNat ∧ vt = .int .i64 (t2 : Int) ∧ ve = .int .i64 0 ∧ Hid (t2 = tailOf P (T 0) ∧ MemAt wr m cb μ ∧ PostInv P μ.cells q T ∧ UsedIs u' q ∧ u'.a4 = 0 ∧ u'.a5 = 0 ∧ μ.cells.length = p.cells.toNat ∧ Blk wr bp [.int .i64 p.base.a0, .int .i64 p.base.a1, .int .i64 p.base.a2, .int .i64 p.base.a3, .int .i64 p.base.a4, .int .i64 p.base.a5, .int .i64 p.size.a0, .int .i64 p.size.a1, .int .i64 p.size.a2, .int .i64 p.size.a3, .int .i64 p.size.a4, .int .i64 p.size.a5, .int .i64 p.cells, .int .i64 p.slots, .int .i64 p.live] ∧ Blk wr bu [.int .i64 u'.a0, .int .i64 u'.a1, .int .i64 u'.a2, .int .i64 u'.a3, .int .i64 u'.a4, .int .i64 u'.a5] ∧ Blk wr b17 [.int .i64 X.a0, .int .i64 X.a1, .int .i64 X.a2, .int .i64 X.a3, .int .i64 X.a4, .int .i64 X.a5] ∧ Blk wr b18 [.int .i64 u.a0, .int .i64 u.a1, .int .i64 u.a2, .int .i64 u.a3, .int .i64 u.a4, .int .i64 u.a5] ∧ Keeps (· < ws) w wr ∧ refL ((n : Int).toNat - i) (leftOf (T 0)) (classOf (T 0)) u' = u.add X)) (fun _ _ i _ => (n : Int).toNat - (intOf i).toNat)
                case atStart => exact ⟨0, t1, u, q, T, μ, rfl, Nat.zero_le _, rfl, rfl, HS⟩
                case round =>
                  clear HS
                  obtain ⟨i, t2, u', q', T', μ', rfl, hi, rfl, rfl, HH⟩ := hrel
                  obtain ⟨ht2, hM, hI, hUI, hu4, hu5, hlen, hB, hU, hX17, hU18, hK, hr⟩ := HH.out
                  clear HH
                  have hTr : Tab wr := HT.out.keep hK H0.out
                  by_cases hlt : (i : Int) < n
                  · obtain ⟨m2, hm2⟩ : ∃ m2, (n : Int).toNat - i = m2 + 1 := ⟨(n : Int).toNat - i - 1, by omega⟩
                    rw [hm2] at hr
                    have hnf := no_full HX.out.2.1 hUI hr HF.out
                    have gi1 : IntKind.u32.wrap (i : Int) = (i : Int) := IntWalk.u32_in _ (by omega)
                    have hput := put_any (K := fun b => b ≠ m ∧ b ≠ cb ∧ (b ≤ bu ∨ b = b17 ∨ b = b18)) hM (fun e => e.1 rfl) (fun e => e.2.1 rfl) (fun b hb => by have := hU.lt; have := hX17.lt; have := hU18.lt; omega) (by have := HNN.out; omega) hTr HX.out.1 HX.out.2.1 hUI hI (by have := HX.out.2.2.1; have := HX.out.2.2.2.2.2.1; omega) 0 (i : Int) ⟨by omega, by omega⟩
                    rw [← ht2] at hput
                    unfold PlanM.val V6.val at hput
                    have hBf := hB
                    have p0 := (hBf).cell 0
                    have p1 := (hBf).cell 1
                    have p2 := (hBf).cell 2
                    have p3 := (hBf).cell 3
                    have p4 := (hBf).cell 4
                    have p5 := (hBf).cell 5
                    have p6 := (hBf).cell 6
                    have p7 := (hBf).cell 7
                    have p8 := (hBf).cell 8
                    have p9 := (hBf).cell 9
                    have p10 := (hBf).cell 10
                    have p11 := (hBf).cell 11
                    have p12 := (hBf).cell 12
                    have p13 := (hBf).cell 13
                    have p14 := (hBf).cell 14
                    simp only [List.getElem?_cons_zero, List.getElem?_cons_succ] at p0 p1 p2 p3 p4 p5 p6 p7 p8 p9 p10 p11 p12 p13 p14
                    have u0 := (hU).cell 0
                    have u1 := (hU).cell 1
                    have u2 := (hU).cell 2
                    have u3 := (hU).cell 3
                    have u4 := (hU).cell 4
                    have u5 := (hU).cell 5
                    simp only [List.getElem?_cons_zero, List.getElem?_cons_succ] at u0 u1 u2 u3 u4 u5
                    have HLT := hid (And.intro hlt hm2)
                    have HU4 := hid (And.intro hu4 hu5)
                    have HLEN := hid hlen
                    have HR := hid hr
                    have HNF := hid hnf
                    have Hput := hid hput
                    have HM := hid hM
                    have HB := hid hB
                    have HK := hid hK
                    have HU := hid hU
                    have HX17 := hid hX17
                    have HU18 := hid hU18
                    clear hput hM hB hK hU hX17 hU18
                    clear hBf hTr ht2 hI hUI hm2 hu4 hu5 hlen hi hr hnf
                    go_wp2_with fail
                    refine Hput.out.mono ?_
                    rintro e w7 (⟨q2, T2, u2', cs', rfl, ⟨μ5, hM5, hc5⟩, hk5, hD, hUI', hHow⟩ | ⟨rfl, ⟨μ5, hM5, hc5⟩, hk5, hFu⟩)
                    · subst hc5
                      have hB5 := HB.out.keep hk5 (by have := HNN.out; omega)
                      have hU5 := HU.out.keep hk5 (by have := HNN.out; omega)
                      have hX5 := HX17.out.keep hk5 (by have := HNN.out; have := HN2.out; omega)
                      have hV5 := HU18.out.keep hk5 (by have := HNN.out; have := HN2.out; omega)
                      have hK5 := HK.out.trans (hk5.mono fun b hb => by have := HNN.out; omega)
                      have h45 := hHow.a45
                      have hlen5 : μ5.cells.length = p.cells.toNat := by rw [hD.len]; exact HLEN.out
                      have hr5 : refL m2 (leftOf (T2 0)) (classOf (T2 0)) u2' = u.add X := by rw [← hHow.refL]; exact HR.out
                      obtain ⟨t3, ht3⟩ : ∃ t3, t3 = tailOf P (T2 0) := ⟨_, rfl⟩
                      rw [← ht3]
                      have HD2 := hid (And.intro ht3 (And.intro hM5 (And.intro hD.inv (And.intro hUI' (And.intro h45 hlen5)))))
                      clear p0 p1 p2 p3 p4 p5 p6 p7 p8 p9 p10 p11 p12 p13 p14 u0 u1 u2 u3 u4 u5 hk5 HM HB HU HK HX17 HU18 Hput hD hUI' hHow h45 hM5 ht3 hlen5 HR HNF
                      have d0 := (hU5).cell 0
                      have d1 := (hU5).cell 1
                      have d2 := (hU5).cell 2
                      have d3 := (hU5).cell 3
                      have d4 := (hU5).cell 4
                      have d5 := (hU5).cell 5
                      simp only [List.getElem?_cons_zero, List.getElem?_cons_succ] at d0 d1 d2 d3 d4 d5
                      have fu := hU5.free
                      have HB5 := hid hB5
                      have HK5 := hid hK5
                      have HX5 := hid hX5
                      have HV5 := hid hV5
                      have Hr5 := hid hr5
                      clear hB5 hK5 hX5 hV5 hr5
                      have hS := hU5
                      go_wp2_with fail
                      go_roundw
                      case rel =>
                        refine ⟨i + 1, t3, u2', q2, T2, μ5, by first | rfl | go_num, by have := HLT.out; omega, by first | rfl | go_num, by first | rfl | go_num, hid ⟨HD2.out.1, ?_, HD2.out.2.2.1, HD2.out.2.2.2.1, by rw [HD2.out.2.2.2.2.1.1]; exact HU4.out.1, by rw [HD2.out.2.2.2.2.1.2]; exact HU4.out.2, HD2.out.2.2.2.2.2, ?_, ?_, ?_, ?_, ?_, ?_⟩⟩
                        · refine HD2.out.2.1.keep (K := fun b => b ≠ bu) ?_ (by have := HNN.out; omega) (by have := HNN.out; omega)
                          repeat (first | with_reducible exact Keeps.refl _ _ | with_reducible refine Keeps.drew ?_ | with_reducible refine Keeps.setCell ?_ ?_ _)
                          all_goals simp
                        · refine HB5.out.keep (K := fun b => b ≠ bu) ?_ (by have := HNN.out; omega)
                          repeat (first | with_reducible exact Keeps.refl _ _ | with_reducible refine Keeps.drew ?_ | with_reducible refine Keeps.setCell ?_ ?_ _)
                          all_goals simp
                        · first | with_reducible exact Blk.set6 hS _ _ _ _ _ _ (by simp) | with_reducible exact (Blk.set6 hS _ _ _ _ _ _ (by simp)).drew
                        · refine HX5.out.keep (K := fun b => b ≠ bu) ?_ (by have := HN2.out; omega)
                          repeat (first | with_reducible exact Keeps.refl _ _ | with_reducible refine Keeps.drew ?_ | with_reducible refine Keeps.setCell ?_ ?_ _)
                          all_goals simp
                        · refine HV5.out.keep (K := fun b => b ≠ bu) ?_ (by have := HN2.out; omega)
                          repeat (first | with_reducible exact Keeps.refl _ _ | with_reducible refine Keeps.drew ?_ | with_reducible refine Keeps.setCell ?_ ?_ _)
                          all_goals simp
                        · refine HK5.out.trans ((show Keeps (fun b => b ≠ bu) w7 _ from ?_).mono fun b hb => by have := HNN.out; omega)
                          repeat (first | with_reducible exact Keeps.refl _ _ | with_reducible refine Keeps.drew ?_ | with_reducible refine Keeps.setCell ?_ ?_ _)
                          all_goals simp
                        · rw [show (n : Int).toNat - (i + 1) = m2 from by have := HLT.out; omega]
                          exact Hr5.out
                      case measure => have := HLT.out; simp [intOf]; omega
                    · exact absurd hFu HNF.out
                  · rw [show (n : Int).toNat - i = 0 from by omega] at hr
                    have hr' : u' = u.add X := hr
                    subst hr'
                    have hU3 : Blk wr bu [.int .i64 (u.a0 + X.a0), .int .i64 (u.a1 + X.a1), .int .i64 (u.a2 + X.a2), .int .i64 (u.a3 + X.a3), .int .i64 (u.a4 + X.a4), .int .i64 (u.a5 + X.a5)] := hU
                    have HS3 := hid (And.intro hU3 (And.intro hX17 (And.intro hU18 hK)))
                    have HU4 := HFI
                    have HUB := hid (show ∀ k, k < 6 → 0 ≤ u.g k ∧ 0 ≤ X.g k ∧ u.g k ≤ 65536 ∧ X.g k ≤ 65536 from fun k hk => by
                      have h1 := HFI.out k hk
                      have h2 := HF.out k hk
                      omega)
                    clear ht2 hM hI hUI hu4 hu5 hlen hB hU hX17 hU18 hK hr hTr hU3 HF HFI HU4
                    go_wp2_with fail
                    go_loopw [103] (fun vi wr => ∃ k : Nat, vi = .int .i64 (k : Int) ∧ k ≤ 6 ∧ Hid (Blk wr bu [.int .i64 (u.a0 + X.a0), .int .i64 (u.a1 + X.a1), .int .i64 (u.a2 + X.a2), .int .i64 (u.a3 + X.a3), .int .i64 (u.a4 + X.a4), .int .i64 (u.a5 + X.a5)] ∧ Blk wr b17 [.int .i64 X.a0, .int .i64 X.a1, .int .i64 X.a2, .int .i64 X.a3, .int .i64 X.a4, .int .i64 X.a5] ∧ Blk wr b18 [.int .i64 u.a0, .int .i64 u.a1, .int .i64 u.a2, .int .i64 u.a3, .int .i64 u.a4, .int .i64 u.a5] ∧ Keeps (· < ws) w wr)) (fun i _ => 6 - (intOf i).toNat)
                    case atStart => exact ⟨0, rfl, by omega, HS3⟩
                    case round =>
                      clear HS3
                      obtain ⟨k, rfl, hk, HH⟩ := hrel
                      obtain ⟨hb0, hb1, hb2, hkp⟩ := HH.out
                      clear HH
                      have Hkp := hid hkp
                      clear hkp
                      by_cases hk4 : k < 6
                      · have hcases : k = 0 ∨ k = 1 ∨ k = 2 ∨ k = 3 ∨ k = 4 ∨ k = 5 := by omega
                        clear hk hk4
                        rcases hcases with rfl | rfl | rfl | rfl | rfl | rfl
                        · have c0 := hb0.cell 0
                          change _ = some (Value.int .i64 (u.g 0 + X.g 0)) at c0
                          have c1 := hb1.cell 0
                          change _ = some (Value.int .i64 (X.g 0)) at c1
                          have c2 := hb2.cell 0
                          change _ = some (Value.int .i64 (u.g 0)) at c2
                          obtain ⟨x0, x1, x2, x3⟩ := HUB.out 0 (by omega)
                          generalize u.g 0 = U at *
                          generalize X.g 0 = M at *
                          have gw : IntKind.i64.wrap (U + M - U) = M := by rw [IntWalk.i64_in _ (by omega)]; omega
                          have gne : (M != M) = false := by simp
                          have Hb0 := hid hb0
                          have Hb1 := hid hb1
                          have Hb2 := hid hb2
                          clear hb0 hb1 hb2
                          clear x0 x1 x2 x3
                          go_wp2_with fail
                          go_quiet (fail)
                          go_wp2_with fail
                          go_roundw
                          case rel =>
                            refine ⟨1, by first | rfl | go_num, by omega, hid ⟨?_, ?_, ?_, ?_⟩⟩
                            · repeat (first | exact Hb0.out | with_reducible refine Blk.drew ?_ | with_reducible refine Blk.drewN ?_ _)
                            · repeat (first | exact Hb1.out | with_reducible refine Blk.drew ?_ | with_reducible refine Blk.drewN ?_ _)
                            · repeat (first | exact Hb2.out | with_reducible refine Blk.drew ?_ | with_reducible refine Blk.drewN ?_ _)
                            · repeat (first | exact Hkp.out | with_reducible refine Keeps.drew ?_ | with_reducible refine Keeps.drewN ?_ _)
                          case measure => simp [intOf]
                        · have c0 := hb0.cell 1
                          change _ = some (Value.int .i64 (u.g 1 + X.g 1)) at c0
                          have c1 := hb1.cell 1
                          change _ = some (Value.int .i64 (X.g 1)) at c1
                          have c2 := hb2.cell 1
                          change _ = some (Value.int .i64 (u.g 1)) at c2
                          obtain ⟨x0, x1, x2, x3⟩ := HUB.out 1 (by omega)
                          generalize u.g 1 = U at *
                          generalize X.g 1 = M at *
                          have gw : IntKind.i64.wrap (U + M - U) = M := by rw [IntWalk.i64_in _ (by omega)]; omega
                          have gne : (M != M) = false := by simp
                          have Hb0 := hid hb0
                          have Hb1 := hid hb1
                          have Hb2 := hid hb2
                          clear hb0 hb1 hb2
                          clear x0 x1 x2 x3
                          go_wp2_with fail
                          go_quiet (fail)
                          go_wp2_with fail
                          go_roundw
                          case rel =>
                            refine ⟨2, by first | rfl | go_num, by omega, hid ⟨?_, ?_, ?_, ?_⟩⟩
                            · repeat (first | exact Hb0.out | with_reducible refine Blk.drew ?_ | with_reducible refine Blk.drewN ?_ _)
                            · repeat (first | exact Hb1.out | with_reducible refine Blk.drew ?_ | with_reducible refine Blk.drewN ?_ _)
                            · repeat (first | exact Hb2.out | with_reducible refine Blk.drew ?_ | with_reducible refine Blk.drewN ?_ _)
                            · repeat (first | exact Hkp.out | with_reducible refine Keeps.drew ?_ | with_reducible refine Keeps.drewN ?_ _)
                          case measure => simp [intOf]
                        · have c0 := hb0.cell 2
                          change _ = some (Value.int .i64 (u.g 2 + X.g 2)) at c0
                          have c1 := hb1.cell 2
                          change _ = some (Value.int .i64 (X.g 2)) at c1
                          have c2 := hb2.cell 2
                          change _ = some (Value.int .i64 (u.g 2)) at c2
                          obtain ⟨x0, x1, x2, x3⟩ := HUB.out 2 (by omega)
                          generalize u.g 2 = U at *
                          generalize X.g 2 = M at *
                          have gw : IntKind.i64.wrap (U + M - U) = M := by rw [IntWalk.i64_in _ (by omega)]; omega
                          have gne : (M != M) = false := by simp
                          have Hb0 := hid hb0
                          have Hb1 := hid hb1
                          have Hb2 := hid hb2
                          clear hb0 hb1 hb2
                          clear x0 x1 x2 x3
                          go_wp2_with fail
                          go_quiet (fail)
                          go_wp2_with fail
                          go_roundw
                          case rel =>
                            refine ⟨3, by first | rfl | go_num, by omega, hid ⟨?_, ?_, ?_, ?_⟩⟩
                            · repeat (first | exact Hb0.out | with_reducible refine Blk.drew ?_ | with_reducible refine Blk.drewN ?_ _)
                            · repeat (first | exact Hb1.out | with_reducible refine Blk.drew ?_ | with_reducible refine Blk.drewN ?_ _)
                            · repeat (first | exact Hb2.out | with_reducible refine Blk.drew ?_ | with_reducible refine Blk.drewN ?_ _)
                            · repeat (first | exact Hkp.out | with_reducible refine Keeps.drew ?_ | with_reducible refine Keeps.drewN ?_ _)
                          case measure => simp [intOf]
                        · have c0 := hb0.cell 3
                          change _ = some (Value.int .i64 (u.g 3 + X.g 3)) at c0
                          have c1 := hb1.cell 3
                          change _ = some (Value.int .i64 (X.g 3)) at c1
                          have c2 := hb2.cell 3
                          change _ = some (Value.int .i64 (u.g 3)) at c2
                          obtain ⟨x0, x1, x2, x3⟩ := HUB.out 3 (by omega)
                          generalize u.g 3 = U at *
                          generalize X.g 3 = M at *
                          have gw : IntKind.i64.wrap (U + M - U) = M := by rw [IntWalk.i64_in _ (by omega)]; omega
                          have gne : (M != M) = false := by simp
                          have Hb0 := hid hb0
                          have Hb1 := hid hb1
                          have Hb2 := hid hb2
                          clear hb0 hb1 hb2
                          clear x0 x1 x2 x3
                          go_wp2_with fail
                          go_quiet (fail)
                          go_wp2_with fail
                          go_roundw
                          case rel =>
                            refine ⟨4, by first | rfl | go_num, by omega, hid ⟨?_, ?_, ?_, ?_⟩⟩
                            · repeat (first | exact Hb0.out | with_reducible refine Blk.drew ?_ | with_reducible refine Blk.drewN ?_ _)
                            · repeat (first | exact Hb1.out | with_reducible refine Blk.drew ?_ | with_reducible refine Blk.drewN ?_ _)
                            · repeat (first | exact Hb2.out | with_reducible refine Blk.drew ?_ | with_reducible refine Blk.drewN ?_ _)
                            · repeat (first | exact Hkp.out | with_reducible refine Keeps.drew ?_ | with_reducible refine Keeps.drewN ?_ _)
                          case measure => simp [intOf]
                        · have c0 := hb0.cell 4
                          change _ = some (Value.int .i64 (u.g 4 + X.g 4)) at c0
                          have c1 := hb1.cell 4
                          change _ = some (Value.int .i64 (X.g 4)) at c1
                          have c2 := hb2.cell 4
                          change _ = some (Value.int .i64 (u.g 4)) at c2
                          obtain ⟨x0, x1, x2, x3⟩ := HUB.out 4 (by omega)
                          generalize u.g 4 = U at *
                          generalize X.g 4 = M at *
                          have gw : IntKind.i64.wrap (U + M - U) = M := by rw [IntWalk.i64_in _ (by omega)]; omega
                          have gne : (M != M) = false := by simp
                          have Hb0 := hid hb0
                          have Hb1 := hid hb1
                          have Hb2 := hid hb2
                          clear hb0 hb1 hb2
                          clear x0 x1 x2 x3
                          go_wp2_with fail
                          go_quiet (fail)
                          go_wp2_with fail
                          go_roundw
                          case rel =>
                            refine ⟨5, by first | rfl | go_num, by omega, hid ⟨?_, ?_, ?_, ?_⟩⟩
                            · repeat (first | exact Hb0.out | with_reducible refine Blk.drew ?_ | with_reducible refine Blk.drewN ?_ _)
                            · repeat (first | exact Hb1.out | with_reducible refine Blk.drew ?_ | with_reducible refine Blk.drewN ?_ _)
                            · repeat (first | exact Hb2.out | with_reducible refine Blk.drew ?_ | with_reducible refine Blk.drewN ?_ _)
                            · repeat (first | exact Hkp.out | with_reducible refine Keeps.drew ?_ | with_reducible refine Keeps.drewN ?_ _)
                          case measure => simp [intOf]
                        · have c0 := hb0.cell 5
                          change _ = some (Value.int .i64 (u.g 5 + X.g 5)) at c0
                          have c1 := hb1.cell 5
                          change _ = some (Value.int .i64 (X.g 5)) at c1
                          have c2 := hb2.cell 5
                          change _ = some (Value.int .i64 (u.g 5)) at c2
                          obtain ⟨x0, x1, x2, x3⟩ := HUB.out 5 (by omega)
                          generalize u.g 5 = U at *
                          generalize X.g 5 = M at *
                          have gw : IntKind.i64.wrap (U + M - U) = M := by rw [IntWalk.i64_in _ (by omega)]; omega
                          have gne : (M != M) = false := by simp
                          have Hb0 := hid hb0
                          have Hb1 := hid hb1
                          have Hb2 := hid hb2
                          clear hb0 hb1 hb2
                          clear x0 x1 x2 x3
                          go_wp2_with fail
                          go_quiet (fail)
                          go_wp2_with fail
                          go_roundw
                          case rel =>
                            refine ⟨6, by first | rfl | go_num, by omega, hid ⟨?_, ?_, ?_, ?_⟩⟩
                            · repeat (first | exact Hb0.out | with_reducible refine Blk.drew ?_ | with_reducible refine Blk.drewN ?_ _)
                            · repeat (first | exact Hb1.out | with_reducible refine Blk.drew ?_ | with_reducible refine Blk.drewN ?_ _)
                            · repeat (first | exact Hb2.out | with_reducible refine Blk.drew ?_ | with_reducible refine Blk.drewN ?_ _)
                            · repeat (first | exact Hkp.out | with_reducible refine Keeps.drew ?_ | with_reducible refine Keeps.drewN ?_ _)
                          case measure => simp [intOf]
                      · obtain rfl : k = 6 := by omega
                        clear hb0 hb1 hb2
                        go_wp2_with fail
                        refine (fixed09 _ (HT.out.keep Hkp.out H0.out)).mono ?_
                        rintro e w8 ⟨rfl, hk8⟩
                        have hkf : Keeps (· < ws) w w8 := Hkp.out.trans (hk8.mono fun b hb => by have := Hkp.out.size; have := Hws.out; omega)
                        clear hk8
                        have Hkf := hid hkf
                        clear hkf
                        go_wp2_with fail
                        exact hR'.out _ _ ⟨rfl, Hkf.out⟩
              · have hKf : Keeps (· < ws) w w6 := HD.out.2.2.2.2.2.2.2.2.2.1.trans (hk6.mono fun b hb => by have := HD.out.2.2.2.2.2.2.2.2.2.1.size; have := Hws.out; omega)
                clear hk6 p0 p1 p2 p3 p4 p5 p6 p7 p8 p9 p10 p11 p12 p13 p14 u0 u1 u2 u3 u4 u5 x0 x1 x2 x3 x4 x5
                have HKf := hid hKf
                clear hKf
                go_wp2_with fail
                refine (fixed09 _ (HT.out.keep HKf.out H0.out)).mono ?_
                rintro e w7 ⟨rfl, hk7⟩
                have hkf : Keeps (· < ws) w w7 := HKf.out.trans (hk7.mono fun b hb => by have := HKf.out.size; have := Hws.out; omega)
                clear hk7
                have Hkf := hid hkf
                clear hkf
                go_wp2_with fail
                exact hR'.out _ _ ⟨rfl, Hkf.out⟩
end Go.Proofs.YtbmgmjfpoepgpaaDoor
