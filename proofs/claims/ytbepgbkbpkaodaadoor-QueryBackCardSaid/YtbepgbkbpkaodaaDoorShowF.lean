/- Layer 17's document: which leaves may be. -/
import Derived.Test.YtbepgbkbpkaodaaDoorShowB
namespace Go.Proofs.YtbepgbkbpkaodaaDoor
open Go.RowKit

set_option maxRecDepth 100000 in
set_option maxHeartbeats 4000000 in
theorem ref17_mayLeaf (k f : Int) (ts : List (Int × ByteArray × Int)) (A1 A2 : Option Addr) (c1 n2 c2 : Nat) (w : World) (K : Nat → Prop) (hb : ∀ b, K b → b < w.heap.size) (h1 : SlAt w K 3 (.slice A1 ts.length c1) ts.length (ts.flatMap tokG))
    (hf : 0 ≤ f ∧ f ≤ 255) (ht : ∀ t ∈ ts, (0 ≤ t.1 ∧ t.1 ≤ 255) ∧ (-9223372036854775808 ≤ t.2.2 ∧ t.2.2 ≤ 9223372036854775807)) (hl : ts.length ≤ 3000) (hs : textsN ts ≤ 3000) (hn2 : n2 ≤ 3000) :
    Calls Tryd.prog 50 #[.agg #[.int .i64 k, .int .u8 f, .slice A1 ts.length c1, .slice A2 n2 c2]] w fun e w' => e = .returned (.bool (n2 == 0 && leafOk f ts)) ∧ Keeps (· < w.heap.size) w w' := by
  obtain ⟨hf0, hf1⟩ := hf
  have hkw : Keeps (· < w.heap.size) w (w.alloc (.cells #[.int .i64 k, .int .u8 f, .slice A1 ts.length c1, .slice A2 n2 c2] 26)) := (Keeps.refl _ _).alloc (fun b hb => hb) _
  have hB : Blk (w.alloc (.cells #[.int .i64 k, .int .u8 f, .slice A1 ts.length c1, .slice A2 n2 c2] 26)) w.heap.size [.int .i64 k, .int .u8 f, .slice A1 ts.length c1, .slice A2 n2 c2] := Blk.new w _ _
  have hsl : w.heap.size < (w.alloc (.cells #[.int .i64 k, .int .u8 f, .slice A1 ts.length c1, .slice A2 n2 c2] 26)).heap.size := by rw [World.size_alloc]; omega
  have H1 := hid h1
  have Hb := hid hb
  have Ht := hid ht
  have Hkw := hid hkw
  have HB := hid hB
  have Hs := hid hs
  clear h1 hb ht hkw hB hs
  refine calls_hide fun R' hR' => ?_
  go_enter Tryd.func50, Tryd.ntmps50
  by_cases hf3 : 3 < f
  · have hf3b : 3 < f := hf3
    have hno : (n2 == 0 && leafOk f ts) = false := by unfold leafOk; rw [decide_eq_false (by omega : ¬ f ≤ 3), Bool.false_and, Bool.false_and, Bool.and_false]
    have Hno := hid hno
    clear hno
    go_wp2_with fail
    exact hR'.out _ _ ⟨by first | (rw [Hno.out]; done) | (rw [Hno.out]; rfl), Hkw.out⟩
  have hf3b : ¬ 3 < f := hf3
  by_cases hn0 : 0 < n2
  · have hnI : (0 : Int) < (n2 : Int) := by omega
    have hno : (n2 == 0 && leafOk f ts) = false := by
      have h9 : n2 ≠ 0 := by omega
      have : (n2 == 0) = false := by simpa using h9
      rw [this]; rfl
    have Hno := hid hno
    clear hno
    go_wp2_with fail
    exact hR'.out _ _ ⟨by first | (rw [Hno.out]; done) | (rw [Hno.out]; rfl), Hkw.out⟩
  have hnI : ¬ (0 : Int) < (n2 : Int) := by omega
  have hlk0 : leafOk f ts = (headOk ts && termsOk f 0 (ts.drop 0)) := by unfold leafOk; rw [decide_eq_true (by omega : f ≤ 3), Bool.true_and]; rfl
  have hres : (n2 == 0 && leafOk f ts) = leafOk f ts := by
    have : (n2 == 0) = true := by simpa using (by omega : n2 = 0)
    rw [this, Bool.true_and]
  rw [hres] at hR'
  clear hres
  have Hlk0 := hid hlk0
  clear hlk0
  go_wp2_with fail
  generalize w.alloc (.cells #[.int .i64 k, .int .u8 f, .slice A1 ts.length c1, .slice A2 n2 c2] 26) = W1 at *
  have hz := HB.out
  go_loopw [18] (fun iv wx => ∃ (i : Nat) (p : Int), iv = .int .i64 (i : Int) ∧ i ≤ ts.length ∧ 0 ≤ p ∧ p ≤ 257 ∧ Hid (leafOk f ts = (headOk ts && termsOk f p (ts.drop i))) ∧ Hid (i = 0 → p = 0) ∧ Hid (∀ q, i = q + 1 → headOk ts = true ∧ ∃ tf tt tp, ts[q]? = some (tf, tt, tp) ∧ p = tp + 1) ∧ Hid (Keeps (· < W1.heap.size) W1 wx)) (fun iv _ => ts.length - (intOf iv).toNat)
  case atStart => exact ⟨0, 0, rfl, Nat.zero_le _, by decide, by decide, Hlk0, hid (fun _ => rfl), hid (fun q h => by omega), hid (Keeps.refl _ _)⟩
  case round =>
    clear Hlk0
    obtain ⟨i, p, rfl, hi, hp0, hp1, HO, HZ, HQ, HK⟩ := hrel
    have hkr := HK.out
    have hZ := HB.out.keep hkr hsl
    have hwr := hkr.size
    by_cases hlt : i < ts.length
    · have hltI : (i : Int) < (ts.length : Int) := by omega
      obtain ⟨⟨tf, tt, tp⟩, hx⟩ : ∃ x, ts[i]? = some x := ⟨_, List.getElem?_eq_getElem hlt⟩
      have hd : ts.drop i = (tf, tt, tp) :: ts.drop (i + 1) := by
        obtain ⟨h9, h8⟩ := List.getElem?_eq_some_iff.1 hx
        rw [List.drop_eq_getElem_cons h9, h8]
      obtain ⟨b0, o0, rfl, hk1, g1⟩ := SlAt.rec (f := tokG) (fun _ _ => rfl) H1.out i _ hx
      have hh0 := Hb.out _ hk1
      have hkw2 := Hkw.out.trans (hkr.mono fun b hb => by omega)
      have a0 := (World.cell?_of_block (a := ⟨b0, o0 + i * 3 + 0, none⟩) (hkw2.block b0 hh0)).trans (g1 0 _ rfl)
      have a1 := (World.cell?_of_block (a := ⟨b0, o0 + i * 3 + 1, none⟩) (hkw2.block b0 hh0)).trans (g1 1 _ rfl)
      have a2 := (World.cell?_of_block (a := ⟨b0, o0 + i * 3 + 2, none⟩) (hkw2.block b0 hh0)).trans (g1 2 _ rfl)
      simp only [Nat.add_zero] at a0
      obtain ⟨⟨htf0, htf1⟩, htp0, htp1⟩ := Ht.out _ (List.mem_of_getElem? hx)
      have htt : tt.size ≤ 1000000 := by have := sumL_mem (fun t : Int × ByteArray × Int => t.2.1.size) ts _ (List.mem_of_getElem? hx); have h3 := Hs.out; have : tt.size ≤ textsN ts := this; omega
      have ho2 : leafOk f ts = (headOk ts && (tf == f && wordOk tt && decide (p ≤ tp) && decide (tp ≤ 256) && termsOk f (tp + 1) (ts.drop (i + 1)))) := by
        have := HO.out
        rw [hd] at this
        exact this
      have hFail : ∀ W', Keeps (· < w.heap.size) w W' → leafOk f ts = false → R' (.returned (.bool false)) W' := fun W' hk hlf => hR'.out _ _ ⟨by rw [hlf], hk⟩
      clear HO g1 hk1
      have Hd := hid hd
      have Hkw2 := hid hkw2
      have Hkr := hid hkr
      have Ho2 := hid ho2
      have HFail := hid hFail
      have Hx := hid hx
      clear hd hkw2 hkr ho2 hFail hx
      have hZl := hZ.lt
      have z0 := (hZ).cell 0
      have z1 := (hZ).cell 1
      have z2 := (hZ).cell 2
      have z3 := (hZ).cell 3
      simp only [List.getElem?_cons_zero, List.getElem?_cons_succ] at z0 z1 z2 z3
      clear hZ
      go_wp2_with fail
      have hk3 : Keeps (· < wr.heap.size) wr (wr.alloc (.cells #[.int .u8 tf, .string tt, .int .i64 tp] 42)) := (Keeps.refl _ _).alloc (fun b hb => hb) _
      refine (ref6_words tt htt _).mono ?_
      rintro e w3 ⟨v, rfl, hTR⟩
      rw [words_eq] at hTR
      have hB3 : Blk w3 wr.heap.size [.int .u8 tf, .string tt, .int .i64 tp] := (Blk.new wr _ _).keep hTR.2 (by simp)
      have hk4 : Keeps (· < wr.heap.size) wr w3 := hk3.trans (hTR.2.mono fun b hb => by simp; omega)
      have z0 := (World.cell?_of_block (a := ⟨w.heap.size, 0, none⟩) (hk4.block w.heap.size (by omega))).trans z0
      have z1 := (World.cell?_of_block (a := ⟨w.heap.size, 1, none⟩) (hk4.block w.heap.size (by omega))).trans z1
      have z2 := (World.cell?_of_block (a := ⟨w.heap.size, 2, none⟩) (hk4.block w.heap.size (by omega))).trans z2
      have hkr4 := Hkr.out.trans (hk4.mono fun b hb => by omega)
      have hkw3 := Hkw2.out.trans (hk4.mono fun b hb => by omega)
      have hpc : ∀ q, i = q + 1 → ∃ pp : Int, p = pp + 1 ∧ w3.cell? ⟨b0, o0 + q * 3 + 2, none⟩ = some (.int .i64 pp) := fun q hq => by
        obtain ⟨_, tf', tt', tp', h9, h8⟩ := HQ.out q hq
        obtain ⟨b9, o9, e9, _, g9⟩ := SlAt.rec (f := tokG) (fun _ _ => rfl) H1.out q _ h9
        injection e9 with e9
        injection e9 with e91 e92
        subst e91 e92
        exact ⟨tp', h8, (World.cell?_of_block (a := ⟨b0, o0 + q * 3 + 2, none⟩) (hkw3.block b0 hh0)).trans (g9 2 _ rfl)⟩
      have y0 := (hB3).cell 0
      have y1 := (hB3).cell 1
      have y2 := (hB3).cell 2
      simp only [List.getElem?_cons_zero, List.getElem?_cons_succ] at y0 y1 y2
      clear hB3 a0 a1 a2 hk3 hk4 z3
      have hrow := hTR.1
      clear hTR
      generalize hws : wordsR 0 (runesS tt) = ws at *
      have Hws := hid hws
      have Hkr4 := hid hkr4
      have Hkw3 := hid hkw3
      have Hpc := hid hpc
      clear hws hkr4 hkw3 hpc
      have hmo := hrow
      obtain ⟨A3, c3, rfl⟩ := ownB_form hrow
      by_cases h1 : tf = f
      · have f1 : (tf != f) = false := by simp [h1]
        by_cases h2 : ws.length = 1
        · have f2 : ((ws.length : Int) != 1) = false := by simp [h2]
          obtain ⟨g, c4, hpos⟩ := ownB_posS hrow (by omega)
          injection hpos with e1 _ e3
          subst e1 e3
          obtain ⟨⟨x, px⟩, hx1⟩ : ∃ x, ws[0]? = some x := ⟨_, List.getElem?_eq_getElem (by omega)⟩
          have hc1 := own_newsS hmo 1 (.string x) (by
            cases ws with
            | nil => cases hx1
            | cons y t => injection hx1 with hx1; subst hx1; rfl)
          rw [Addr.add_lit, Nat.zero_add] at hc1
          have hwo : wordOk tt = (x.toList == tt.toList) := by
            unfold wordOk
            rw [Hws.out, h2, hx1]
            rfl
          clear hrow hmo hx1
          have Hwo := hid hwo
          clear hwo
          by_cases h3 : x.toList = tt.toList
          · have f3 : (x.toList == tt.toList) = true := by simp [h3]
            by_cases h4 : tp < 0
            · have f4 : decide (tp < 0) = true := decide_eq_true h4
              have hno : leafOk f ts = false := by rw [Ho2.out, decide_eq_false (by omega : ¬ p ≤ tp)]; simp
              have Hno := hid hno
              clear hno
              go_wp2_with fail
              go_quiet (fail)
              go_wp2_with fail
              exact HFail.out _ (Hkw3.out.drewN nq) Hno.out
            have f4 : decide (tp < 0) = false := decide_eq_false h4
            by_cases h5 : 256 < tp
            · have f5 : decide (256 < tp) = true := decide_eq_true h5
              have hno : leafOk f ts = false := by rw [Ho2.out, decide_eq_false (by omega : ¬ tp ≤ 256)]; simp
              have Hno := hid hno
              clear hno
              go_wp2_with fail
              go_quiet (fail)
              go_wp2_with fail
              exact HFail.out _ (Hkw3.out.drewN nq) Hno.out
            have f5 : decide (256 < tp) = false := decide_eq_false h5
            have hw1 : wordOk tt = true := by rw [Hwo.out]; exact f3
            cases i with
            | zero =>
              have hpz := HZ.out rfl
              have hhd : headOk ts = (tp == 0) := by
                have hx0 := Hx.out
                cases ts with
                | nil => cases hx0
                | cons y l =>
                  injection hx0 with hx0
                  subst hx0
                  rfl
              by_cases h6 : tp = 0
              · have f6 : (tp != 0) = false := by simp [h6]
                have hh3 : headOk ts = true := by rw [hhd]; simp [h6]
                have ho3 : leafOk f ts = (headOk ts && termsOk f (tp + 1) (ts.drop (0 + 1))) := by
                  rw [Ho2.out, hw1, decide_eq_true (by omega : p ≤ tp), decide_eq_true (by omega : tp ≤ 256)]
                  simp [h1]
                have hq3 : ∀ q, 0 + 1 = q + 1 → headOk ts = true ∧ ∃ tf tt tp', ts[q]? = some (tf, tt, tp') ∧ tp + 1 = tp' + 1 := fun q hq => by
                  obtain rfl : q = 0 := by omega
                  exact ⟨hh3, tf, tt, tp, Hx.out, rfl⟩
                clear hh3 hhd h3 h4 h5 hw1 hpz HQ HZ
                have Ho3 := hid ho3
                have Hq3 := hid hq3
                clear ho3 hq3
                go_wp2_with fail
                go_quiet (fail)
                have hk9 := Hkr4.out.drewN nq
                clear y0 y1 y2 hc1 z0 z1 z2
                have Hk9 := hid hk9
                clear hk9
                go_wp2_with fail
                go_roundw
                case rel => exact ⟨0 + 1, tp + 1, by go_num, by omega, by omega, by omega, Ho3, hid (fun h => by omega), Hq3, Hk9⟩
                case measure => first | (simp [intOf]; done) | (simp [intOf]; omega)
              · have f6 : (tp != 0) = true := by simp [h6]
                have hno : leafOk f ts = false := by
                  have : (tp == 0) = false := by simpa using h6
                  rw [Ho2.out, hhd, this]
                  rfl
                clear hhd h3 hw1 hpz
                have Hno := hid hno
                clear hno
                go_wp2_with fail
                go_quiet (fail)
                go_wp2_with fail
                exact HFail.out _ (Hkw3.out.drewN nq) Hno.out
            | succ q =>
              obtain ⟨pp, hpp, hpcell⟩ := Hpc.out q rfl
              obtain ⟨hh3, _⟩ := HQ.out q rfl
              have hqI : ((q + 1 : Nat) : Int) = (q : Int) + 1 := by omega
              have f7 : ((q : Int) + 1 == 0) = false := by
                have : (q : Int) + 1 ≠ 0 := by omega
                simpa using this
              have f8 : decide (0 < (q : Int) + 1) = true := decide_eq_true (by omega)
              rw [hqI]
              by_cases h6 : tp ≤ pp
              · have f6 : decide (tp ≤ pp) = true := decide_eq_true h6
                have hno : leafOk f ts = false := by rw [Ho2.out, decide_eq_false (by omega : ¬ p ≤ tp)]; simp
                clear h3 hw1 hpp hqI
                have Hno := hid hno
                clear hno
                go_wp2_with fail
                go_quiet (fail)
                go_wp2_with fail
                exact HFail.out _ (Hkw3.out.drewN nq) Hno.out
              · have f6 : decide (tp ≤ pp) = false := decide_eq_false h6
                have ho3 : leafOk f ts = (headOk ts && termsOk f (tp + 1) (ts.drop (q + 1 + 1))) := by
                  rw [Ho2.out, hw1, decide_eq_true (by omega : p ≤ tp), decide_eq_true (by omega : tp ≤ 256)]
                  simp [h1]
                have hq3 : ∀ q', q + 1 + 1 = q' + 1 → headOk ts = true ∧ ∃ tf tt tp', ts[q']? = some (tf, tt, tp') ∧ tp + 1 = tp' + 1 := fun q' hq => by
                  obtain rfl : q' = q + 1 := by omega
                  exact ⟨hh3, tf, tt, tp, Hx.out, rfl⟩
                have hb0 : 0 ≤ tp + 1 := by omega
                have hb1 : tp + 1 ≤ 257 := by omega
                clear hh3 h3 h4 h5 hw1 hpp HQ HZ hqI
                have Ho3 := hid ho3
                have Hq3 := hid hq3
                clear ho3 hq3
                go_wp2_with fail
                go_quiet (fail)
                have hk9 := Hkr4.out.drewN nq
                clear y0 y1 y2 hc1 z0 z1 z2
                have Hk9 := hid hk9
                clear hk9
                go_wp2_with fail
                go_roundw
                case rel => exact ⟨q + 1 + 1, tp + 1, by go_num, by omega, by omega, by omega, Ho3, hid (fun h => by omega), Hq3, Hk9⟩
                case measure => first | (simp [intOf]; done) | (simp [intOf]; omega)
          · have f3 : (x.toList == tt.toList) = false := by simp [h3]
            have hno : leafOk f ts = false := by rw [Ho2.out, Hwo.out, f3]; simp
            have Hno := hid hno
            clear hno
            go_wp2_with fail
            go_quiet (fail)
            go_wp2_with fail
            exact HFail.out _ (Hkw3.out.drewN nq) Hno.out
        · have f2 : ((ws.length : Int) != 1) = true := by simp; omega
          have hno : leafOk f ts = false := by
            have : wordOk tt = false := by unfold wordOk; rw [Hws.out]; simp [h2]
            rw [Ho2.out, this]
            simp
          clear hmo hrow h1 h2
          have Hno := hid hno
          clear hno
          go_wp2_with fail
          go_quiet (fail)
          go_wp2_with fail
          exact HFail.out _ (Hkw3.out.drewN nq) Hno.out
      · have f1 : (tf != f) = true := by simp [h1]
        have hno : leafOk f ts = false := by
          rw [Ho2.out]
          have : (tf == f) = false := by simpa using h1
          rw [this]
          simp
        clear hmo hrow h1
        have Hno := hid hno
        clear hno
        go_wp2_with fail
        go_quiet (fail)
        go_wp2_with fail
        exact HFail.out _ (Hkw3.out.drewN nq) Hno.out
    · obtain rfl : i = ts.length := by omega
      have hltI : ¬ (ts.length : Int) < (ts.length : Int) := by omega
      have hok : leafOk f ts = true := by
        rw [HO.out, List.drop_length]
        show (headOk ts && true) = true
        rw [Bool.and_true]
        by_cases h0 : 0 < ts.length
        · exact (HQ.out (ts.length - 1) (by omega)).1
        · have : ts = [] := List.eq_nil_of_length_eq_zero (by omega)
          rw [this]
          rfl
      have hk9 := Hkw.out.trans (hkr.mono fun b hb => by omega)
      clear HO HZ HQ
      have Hok := hid hok
      have Hk9 := hid hk9
      clear hok hk9
      go_wp2_with fail
      exact hR'.out _ _ ⟨by rw [Hok.out], Hk9.out⟩
end Go.Proofs.YtbepgbkbpkaodaaDoor
